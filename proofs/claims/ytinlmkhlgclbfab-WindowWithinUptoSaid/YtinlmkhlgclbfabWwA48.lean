/- LawWinW -/
import Derived.Test.YtinlmkhlgclbfabWwA46
import Derived.Test.YtinlmkhlgclbfabWwA47
namespace Go.Proofs.Ytinlmkhlgclbfab
open Go.RowKit
set_option maxRecDepth 100000
set_option maxHeartbeats 8000000

/-- how many actions were told as done, of the first i events, behind the first E -/
def cntD (E : Nat) (evs : List TEv) (i : Nat) : Nat := (((evs.take i).drop E).filter doneEv).length
theorem cntD_le (E : Nat) (evs : List TEv) (i : Nat) : cntD E evs i ≤ i := by
  unfold cntD
  refine Nat.le_trans (List.length_filter_le _ _) ?_
  simp; omega
theorem cntD_old {E : Nat} {evs : List TEv} {i : Nat} (h : i ≤ E) : cntD E evs i = 0 := by
  unfold cntD
  rw [List.drop_eq_nil_of_le (by simp; omega)]; rfl
theorem cntD_new {E : Nat} {evs : List TEv} {i : Nat} (hE : E ≤ i) (hi : i < evs.length) : cntD E evs (i + 1) = cntD E evs i + if doneEv (nth evs i) then 1 else 0 := by
  unfold cntD
  rw [List.take_succ_eq_append_getElem hi, List.drop_append_of_le_length (by simp; omega), List.filter_append, List.length_append, ← nth_eq hi]
  congr 1
  cases h : doneEv (nth evs i) <;> simp [h]
theorem cntD_end (E more : List TEv) : cntD E.length (E ++ more) (E ++ more).length = (more.filter doneEv).length := by
  unfold cntD
  rw [List.take_length, List.drop_left']
  rfl
theorem told_at {from_ to_ n : Int} {E : List TEv} {d : TDom} (h : Told from_ to_ E n d) {i : Nat} (hi : i < d.events.length) : (i < E.length → nth d.events i = nth E i) ∧ (E.length ≤ i → (nth d.events i).t ≤ to_ ∧ ((nth d.events i).kind = 2 ∨ (nth d.events i).kind = 6 ∨ from_ ≤ (nth d.events i).t)) := by
  obtain ⟨more, h1, h2, _⟩ := h
  rw [h1] at hi ⊢
  refine ⟨fun hE => nth_append_left hE, fun hE => ?_⟩
  have : nth (E ++ more) i = nth more (i - E.length) := by
    unfold nth
    rw [List.getD_eq_getElem?_getD, List.getElem?_append_right hE, List.getD_eq_getElem?_getD]
  rw [this]
  have hlt : i - E.length < more.length := by rw [List.length_append] at hi; omega
  refine h2 _ ?_
  rw [nth_eq hlt]; exact List.getElem_mem hlt
theorem told_cnt {from_ to_ n : Int} {E : List TEv} {d : TDom} (h : Told from_ to_ E n d) : E.length ≤ d.events.length ∧ (cntD E.length d.events d.events.length : Int) = n := by
  obtain ⟨more, h1, _, h3⟩ := h
  rw [h1]
  exact ⟨by simp, by rw [cntD_end]; exact h3⟩

theorem lawWindowWithin (c : TCfg) (S : TCfgS) (m : Int) (d : TDom) (T : TDomS) (k : List (List TWay)) (A : Option Addr) (n : Nat) (ac : List TAct) (Al : Option Addr) (nl : Nat) (t : TTimes) (hz : DomSz d) (hev : d.events.length ≤ 4194304)
    (B : Nat) (w : World) (hB : B ≤ w.heap.size) (hs : TCfg.At (Low B) w c S) (hd : TDom.At (Low B) w d T) (hk : Sl cWay.slice (Low B) w A n k) (hA : Sl cAct (Low B) w Al nl ac) :
    Calls Try.prog 8 #[.agg #[.int .i64 c.sets, .int .i64 c.ways, .int .i64 c.doms, .int .i64 c.pad, .int .i64 c.quantum, .slice S.a0 c.slots.length S.n0, .slice S.a1 c.owners.length S.n1, .slice S.a2 c.chans.length S.n2, .slice S.a3 c.tasks.length S.n3], .int .i64 m, .agg #[.slice T.a0 d.jobs.length T.n0, .slice T.a1 d.released.length T.n1, .int .i64 d.next, .slice T.a2 d.ins.length T.n2, .slice T.a3 d.taken.length T.n3, .slice T.a4 d.outs.length T.n4, .slice T.a5 d.events.length T.n5], .agg #[.slice A k.length n], .slice Al ac.length nl, .agg (TTimes.cells t).toArray] w fun en w' => en = .returned (.bool true) ∧ Below w.heap.size w w' := by
  obtain ⟨t0, t1⟩ := t
  show Calls Try.prog 8 #[.agg #[.int .i64 c.sets, .int .i64 c.ways, .int .i64 c.doms, .int .i64 c.pad, .int .i64 c.quantum, .slice S.a0 c.slots.length S.n0, .slice S.a1 c.owners.length S.n1, .slice S.a2 c.chans.length S.n2, .slice S.a3 c.tasks.length S.n3], .int .i64 m, .agg #[.slice T.a0 d.jobs.length T.n0, .slice T.a1 d.released.length T.n1, .int .i64 d.next, .slice T.a2 d.ins.length T.n2, .slice T.a3 d.taken.length T.n3, .slice T.a4 d.outs.length T.n4, .slice T.a5 d.events.length T.n5], .agg #[.slice A k.length n], .slice Al ac.length nl, .agg #[.int .i64 t0, .int .i64 t1]] w _
  have HB := Lib.hid lawWindowBegun
  have HR := Lib.hid (fun W (h : Below w.heap.size w W) => windowRun c S m d T k A n ac Al nl t0 t1 hz hev B W (Nat.le_trans hB h.size) (hs.next hB h) (hd.next hB h) (hk.next hB h) (hA.next hB h))
  by_cases eW : winErr c m d k ac t0 t1 = 0
  · have R1 : runD c m d k ac t0 t1 = windowD c m d k ac t0 t1 := by unfold runD; rw [if_pos eW]
    rw [R1, eW] at HR
    have hT : Told t0 t1 d.events ((windowD c m d k ac t0 t1).next - d.next) (windowD c m d k ac t0 t1) := by
      unfold winErr at eW
      rw [thenE_zero, thenE_zero, thenE_zero] at eW
      obtain ⟨x1, x2, x3, x4⟩ := eW
      unfold checkBoth at x1
      rw [thenE_zero] at x1
      have hao := actsErr_ok x3
      unfold timeErr at x4
      rw [ite_zero (by omega)] at x4
      exact window_told (checkConfig_ok x1.1) hao.1 hao.2 (by omega) (domErr_zero.1 x1.2).toDomOkW (checkCache_ok.1 x2)
    generalize windowD c m d k ac t0 t1 = d1 at *
    generalize runK c m d k ac t0 t1 = k1 at *
    obtain ⟨hle, hcnt⟩ := told_cnt hT
    replace hcnt := Lib.hid hcnt
    have hat := Lib.hid (fun i (hi : i < d1.events.length) => told_at hT hi)
    clear R1 eW hT hs hk hA
    obtain ⟨e0, k0, e1, k1', e2, k2, e3, k3, e4, k4, e5, k5⟩ := T
    have hse : Sl cEv (Low B) w e5 k5 d.events := hd.s5
    have ml := Nat.le_trans hse.cap hse.max
    unfold maxLen at ml
    clear hd
    dsimp only at HR ⊢
    go_enter Try.func8, Try.ntmps8
    go_wp2_with fail
    (go_at_call 30; refine (HB.out _).mono ?_; rintro e w1 ⟨rfl, hb_w1⟩; refine have_then (P := w1.heap[w.heap.size]? = some (.cells #[.int .i64 c.sets, .int .i64 c.ways, .int .i64 c.doms, .int .i64 c.pad, .int .i64 c.quantum, .slice S.a0 c.slots.length S.n0, .slice S.a1 c.owners.length S.n1, .slice S.a2 c.chans.length S.n2, .slice S.a3 c.tasks.length S.n3] 27)) ((hb_w1.block _ byS).trans byH) (fun c_w1 => ?_); obtain ⟨cc_w1, fc_w1, zc_w1⟩ := blk c_w1; refine have_then (P := w1.heap[w.heap.size + 1]? = some (.cells #[.slice e0 d.jobs.length k0, .slice e1 d.released.length k1', .int .i64 d.next, .slice e2 d.ins.length k2, .slice e3 d.taken.length k3, .slice e4 d.outs.length k4, .slice e5 d.events.length k5] 45)) ((hb_w1.block _ byS).trans byH) (fun d_w1 => ?_); obtain ⟨cd_w1, fd_w1, zd_w1⟩ := blk d_w1; refine have_then (P := w1.heap[w.heap.size + 2]? = some (.cells #[.slice A k.length n] 63)) ((hb_w1.block _ byS).trans byH) (fun k_w1 => ?_); obtain ⟨ck_w1, fk_w1, zk_w1⟩ := blk k_w1; refine have_then (P := w1.heap[w.heap.size + 3]? = some (.cells #[.int .i64 t0, .int .i64 t1] 47)) ((hb_w1.block _ byS).trans byH) (fun u_w1 => ?_); obtain ⟨cu_w1, fu_w1, zu_w1⟩ := blk u_w1; refine have_then (P := Below w.heap.size w w1) byB (fun h_w1 => ?_); have s_w1 := Below.size h_w1; have t_w1 := Below.size hb_w1; (try simp at t_w1); revert hb_w1; intro hb_w1)
    go_wp2_with fail
    (go_at_call 32; refine (HR.out _ byB).mono ?_; rintro e w2 ⟨T1, G1, A1, n1, F1, rfl, hO1, hK1, hG1, hF1, hb_w2⟩; refine have_then (P := w2.heap[w.heap.size + 1]? = some (.cells #[.slice e0 d.jobs.length k0, .slice e1 d.released.length k1', .int .i64 d.next, .slice e2 d.ins.length k2, .slice e3 d.taken.length k3, .slice e4 d.outs.length k4, .slice e5 d.events.length k5] 45)) ((hb_w2.block _ byS).trans byH) (fun d_w2 => ?_); obtain ⟨cd_w2, fd_w2, zd_w2⟩ := blk d_w2; refine have_then (P := w2.heap[w.heap.size + 3]? = some (.cells #[.int .i64 t0, .int .i64 t1] 47)) ((hb_w2.block _ byS).trans byH) (fun u_w2 => ?_); obtain ⟨cu_w2, fu_w2, zu_w2⟩ := blk u_w2; refine have_then (P := Below w.heap.size w w2) byB (fun h_w2 => ?_); have s_w2 := Below.size h_w2; have t_w2 := Below.size hb_w2; (try simp at t_w2); revert hb_w2; intro hb_w2; clear d_w1 cd_w1 fd_w1 u_w1 cu_w1 fu_w1)
    obtain ⟨a0, n0, a1, n1', a2, n2, a3, n3, a4, n4, a5, n5⟩ := T1
    have hx1 : Sl cEv (Low w2.heap.size) w2 a5 n5 d1.events := (hO1.read fun i b hb => hO1.lt i b hb).s5
    have mx := Nat.le_trans hx1.cap hx1.max
    unfold maxLen at mx
    clear hO1 hK1 hG1 hF1
    dsimp only
    go_upto_region 4 with (fail)
    obtain ⟨wb, hwb⟩ : ∃ X, X = (w2.alloc (.cells #[.slice a0 d1.jobs.length n0, .slice a1 d1.released.length n1', .int .i64 d1.next, .slice a2 d1.ins.length n2, .slice a3 d1.taken.length n3, .slice a4 d1.outs.length n4, .slice a5 d1.events.length n5] 45)).alloc (.cells #[.slice A1 k1.length n1] 63) := ⟨_, rfl⟩
    have hxb : wb.heap[w2.heap.size]? = some (.cells #[.slice a0 d1.jobs.length n0, .slice a1 d1.released.length n1', .int .i64 d1.next, .slice a2 d1.ins.length n2, .slice a3 d1.taken.length n3, .slice a4 d1.outs.length n4, .slice a5 d1.events.length n5] 45) := by rw [hwb]; exact byH
    have hb2 : Below w2.heap.size w2 wb := by rw [hwb]; exact byB
    have hdb := (hb2.block _ (blk d_w2).2.2).trans d_w2
    have htb := (hb2.block _ (blk u_w2).2.2).trans u_w2
    have hwwb : Below w.heap.size w wb := h_w2.trans (hb2.mono s_w2)
    rw [← hwb]
    have sb2 := hb2.size
    clear hwb d_w2 cd_w2 fd_w2 u_w2 cu_w2 fu_w2
    obtain ⟨cxb, fxb, zxb⟩ := blk hxb
    obtain ⟨cdb, fdb, zdb⟩ := blk hdb
    obtain ⟨cub, fub, zub⟩ := blk htb
    have hcl : cntD d.events.length d1.events d1.events.length ≤ d1.events.length := cntD_le _ _ _
    have hnx0 : d.next ≤ d1.next := by have := hcnt.out; omega
    have hnx : IntKind.i64.wrap (d1.next - d.next) = d1.next - d.next := IntWalk.i64_in _ (by have := hcnt.out; omega)
    have bl1 : decide (d1.events.length < d.events.length) = false := by simp; omega
    have bl2 : decide (d1.next < d.next) = false := by simp; omega
    go_wp2_with fail
    clear cxb fxb zxb cdb fdb zdb cub fub zub
    go_loopw [16, 17] (fun cv iv wr => ∃ i : Nat, i ≤ d1.events.length ∧ iv = .int .i64 i ∧ cv = .int .i64 (cntD d.events.length d1.events i) ∧ wr.heap[w2.heap.size]? = some (.cells #[.slice a0 d1.jobs.length n0, .slice a1 d1.released.length n1', .int .i64 d1.next, .slice a2 d1.ins.length n2, .slice a3 d1.taken.length n3, .slice a4 d1.outs.length n4, .slice a5 d1.events.length n5] 45) ∧ wr.heap[w.heap.size + 1]? = some (.cells #[.slice e0 d.jobs.length k0, .slice e1 d.released.length k1', .int .i64 d.next, .slice e2 d.ins.length k2, .slice e3 d.taken.length k3, .slice e4 d.outs.length k4, .slice e5 d.events.length k5] 45) ∧ wr.heap[w.heap.size + 3]? = some (.cells #[.int .i64 t0, .int .i64 t1] 47) ∧ Below wb.heap.size wb wr) (fun _ iv _ => d1.events.length - (intOf iv).toNat)
    case atStart => exact ⟨0, Nat.zero_le _, rfl, by rw [cntD_old (Nat.zero_le _)]; rfl, hxb, hdb, htb, Below.refl _ _⟩
    case round =>
      obtain ⟨i, hi, rfl, rfl, hp, hr, ht, hbr⟩ := hrel
      clear hxb hdb htb
      obtain ⟨cp, fp, zp⟩ := blk hp
      obtain ⟨cr, fr, zr⟩ := blk hr
      obtain ⟨ct, ft, zt⟩ := blk ht
      have so := hbr.size
      obtain ⟨wo, rfl⟩ : ∃ wo : World, wo = wr := ⟨_, rfl⟩
      have hci := cntD_le d.events.length d1.events i
      by_cases hlt : i < d1.events.length
      · have hx2 := (hx1.next (Nat.le_refl _) (hb2.trans (hbr.mono sb2)))
        obtain ⟨b, o, rfl, hI, c0, c1, c2, c3⟩ := hx2.at_ev hlt
        have hbl : b < wo.heap.size := Nat.lt_of_lt_of_le hI (by omega)
        have hi0 : (0 : Int) ≤ i := by omega
        have hi1 : (i : Int) < d1.events.length := by omega
        obtain ⟨hat1, hat2⟩ := hat.out i hlt
        by_cases hE : i < d.events.length
        · obtain ⟨b', o', rfl, hI', d0, d1', d2, d3⟩ := (hse.next hB (hwwb.trans (hbr.mono (by omega)))).at_ev hE
          have hbl' : b' < wo.heap.size := Nat.lt_of_lt_of_le hI' (by omega)
          have hi2 : (i : Int) < d.events.length := by omega
          have hneq := fun w => neqEv (nth d1.events i) (nth d.events i) w
          rw [show diffT (nth d1.events i) (nth d.events i) = false by rw [hat1 hE]; simp [diffT]] at hneq
          have hgd := guardEv
          have bE : decide (i < d.events.length) = true := by simpa using hE
          have hcn := Lib.hid (show cntD d.events.length d1.events (i + 1) = cntD d.events.length d1.events i by rw [cntD_old (by omega), cntD_old (by omega)])
          clear hat1 hat2 hx2
          go_wp2_with fail
          go_quiet (fail)
          go_wp2_with fail
          go_roundw
          case rel => exact ⟨i + 1, by omega, by go_num, by rw [hcn.out], byH, byH, byH, below_drewN byB _⟩
          case measure => simp [intOf]; omega
        · obtain ⟨hto, hfr⟩ := hat2 (by omega)
          have bE : decide (i < d.events.length) = false := by simpa using hE
          have bto : decide ((nth d1.events i).t > t1) = false := by simp; omega
          clear hat1 hat2 hx2
          by_cases hk2 : (nth d1.events i).kind = 2
          · have hkk := hk2
            have q2 : ((nth d1.events i).kind == 2) = true := by simp; omega
            have q4 : ((nth d1.events i).kind == 4) = false := by simp; omega
            have q7 : decide ((nth d1.events i).kind ≥ 7) = false := by simp; omega
            by_cases htf : (nth d1.events i).t < t0
            · have qt : decide ((nth d1.events i).t < t0) = true := by simpa using htf
              have hcn : cntD d.events.length d1.events (i + 1) = cntD d.events.length d1.events i + 0 := by rw [cntD_new (by omega) hlt, if_neg (by simp [doneEv]; omega)]
              replace hcn := Lib.hid hcn
              clear hkk
              go_wp2_with fail
              go_roundw
              case rel => exact ⟨i + 1, by omega, by go_num, by rw [hcn.out]; rfl, byH, byH, byH, byB⟩
              case measure => simp [intOf]; omega
            · have qt : decide ((nth d1.events i).t < t0) = false := by simpa using htf
              have hcn : cntD d.events.length d1.events (i + 1) = cntD d.events.length d1.events i + 0 := by rw [cntD_new (by omega) hlt, if_neg (by simp [doneEv]; omega)]
              replace hcn := Lib.hid hcn
              clear hkk
              go_wp2_with fail
              go_roundw
              case rel => exact ⟨i + 1, by omega, by go_num, by rw [hcn.out]; rfl, byH, byH, byH, byB⟩
              case measure => simp [intOf]; omega
          · skip
            by_cases hk6 : (nth d1.events i).kind = 6
            · have hkk := hk6
              have q2 : ((nth d1.events i).kind == 2) = false := by simp; omega
              have q6 : ((nth d1.events i).kind == 6) = true := by simp; omega
              have q4 : ((nth d1.events i).kind == 4) = false := by simp; omega
              have q7 : decide ((nth d1.events i).kind ≥ 7) = false := by simp; omega
              by_cases htf : (nth d1.events i).t < t0
              · have qt : decide ((nth d1.events i).t < t0) = true := by simpa using htf
                have hcn : cntD d.events.length d1.events (i + 1) = cntD d.events.length d1.events i + 0 := by rw [cntD_new (by omega) hlt, if_neg (by simp [doneEv]; omega)]
                replace hcn := Lib.hid hcn
                clear hkk
                go_wp2_with fail
                go_roundw
                case rel => exact ⟨i + 1, by omega, by go_num, by rw [hcn.out]; rfl, byH, byH, byH, byB⟩
                case measure => simp [intOf]; omega
              · have qt : decide ((nth d1.events i).t < t0) = false := by simpa using htf
                have hcn : cntD d.events.length d1.events (i + 1) = cntD d.events.length d1.events i + 0 := by rw [cntD_new (by omega) hlt, if_neg (by simp [doneEv]; omega)]
                replace hcn := Lib.hid hcn
                clear hkk
                go_wp2_with fail
                go_roundw
                case rel => exact ⟨i + 1, by omega, by go_num, by rw [hcn.out]; rfl, byH, byH, byH, byB⟩
                case measure => simp [intOf]; omega
            · skip
              by_cases hk4 : (nth d1.events i).kind = 4
              · have hkk := hk4
                have q2 : ((nth d1.events i).kind == 2) = false := by simp; omega
                have q6 : ((nth d1.events i).kind == 6) = false := by simp; omega
                have q4 : ((nth d1.events i).kind == 4) = true := by simp; omega
                have q7 : decide ((nth d1.events i).kind ≥ 7) = false := by simp; omega
                have qt : decide ((nth d1.events i).t < t0) = false := by simp; omega
                have hcn : cntD d.events.length d1.events (i + 1) = cntD d.events.length d1.events i + 1 := by rw [cntD_new (by omega) hlt, if_pos (by simp [doneEv]; omega)]
                replace hcn := Lib.hid hcn
                clear hkk
                go_wp2_with fail
                go_roundw
                case rel => exact ⟨i + 1, by omega, by go_num, by rw [hcn.out]; go_num, byH, byH, byH, byB⟩
                case measure => simp [intOf]; omega
              · skip
                by_cases hkr : 7 ≤ (nth d1.events i).kind ∧ (nth d1.events i).kind ≤ 12
                · have hkk := hkr
                  have q2 : ((nth d1.events i).kind == 2) = false := by simp; omega
                  have q6 : ((nth d1.events i).kind == 6) = false := by simp; omega
                  have q4 : ((nth d1.events i).kind == 4) = false := by simp; omega
                  have q7 : decide ((nth d1.events i).kind ≥ 7) = true := by simp; omega
                  have q12 : decide ((nth d1.events i).kind ≤ 12) = true := by simp; omega
                  have qt : decide ((nth d1.events i).t < t0) = false := by simp; omega
                  have hcn : cntD d.events.length d1.events (i + 1) = cntD d.events.length d1.events i + 1 := by rw [cntD_new (by omega) hlt, if_pos (by simp [doneEv]; omega)]
                  replace hcn := Lib.hid hcn
                  clear hkk
                  go_wp2_with fail
                  go_roundw
                  case rel => exact ⟨i + 1, by omega, by go_num, by rw [hcn.out]; go_num, byH, byH, byH, byB⟩
                  case measure => simp [intOf]; omega
                · skip
                  by_cases hkh : 12 < (nth d1.events i).kind
                  · have hkk := hkh
                    have q2 : ((nth d1.events i).kind == 2) = false := by simp; omega
                    have q6 : ((nth d1.events i).kind == 6) = false := by simp; omega
                    have q4 : ((nth d1.events i).kind == 4) = false := by simp; omega
                    have q7 : decide ((nth d1.events i).kind ≥ 7) = true := by simp; omega
                    have q12 : decide ((nth d1.events i).kind ≤ 12) = false := by simp; omega
                    have qt : decide ((nth d1.events i).t < t0) = false := by simp; omega
                    have hcn : cntD d.events.length d1.events (i + 1) = cntD d.events.length d1.events i + 0 := by rw [cntD_new (by omega) hlt, if_neg (by simp [doneEv]; omega)]
                    replace hcn := Lib.hid hcn
                    clear hkk
                    go_wp2_with fail
                    go_roundw
                    case rel => exact ⟨i + 1, by omega, by go_num, by rw [hcn.out]; rfl, byH, byH, byH, byB⟩
                    case measure => simp [intOf]; omega
                  · skip
                    have hkk : (nth d1.events i).kind < 7 := by omega
                    have q2 : ((nth d1.events i).kind == 2) = false := by simp; omega
                    have q6 : ((nth d1.events i).kind == 6) = false := by simp; omega
                    have q4 : ((nth d1.events i).kind == 4) = false := by simp; omega
                    have q7 : decide ((nth d1.events i).kind ≥ 7) = false := by simp; omega
                    have qt : decide ((nth d1.events i).t < t0) = false := by simp; omega
                    have hcn : cntD d.events.length d1.events (i + 1) = cntD d.events.length d1.events i + 0 := by rw [cntD_new (by omega) hlt, if_neg (by simp [doneEv]; omega)]
                    replace hcn := Lib.hid hcn
                    clear hkk
                    go_wp2_with fail
                    go_roundw
                    case rel => exact ⟨i + 1, by omega, by go_num, by rw [hcn.out]; rfl, byH, byH, byH, byB⟩
                    case measure => simp [intOf]; omega
      · obtain rfl : i = d1.events.length := by omega
        have hcc := hcnt.out
        clear hi
        go_wp2_with fail
        go_ret
        exact ⟨ret_bool (by simp [hcc]), hwwb.trans (hbr.mono hwwb.size)⟩
  · have R1 : runD c m d k ac t0 t1 = noDom := by unfold runD; rw [if_neg eW]
    rw [R1] at HR
    have b1 : (winErr c m d k ac t0 t1 != 0) = true := by simp [eW]
    clear R1 eW hs hd hk hA
    generalize winErr c m d k ac t0 t1 = E at *
    generalize runK c m d k ac t0 t1 = k1 at *
    have z0 : noDom.events.length = 0 := rfl
    go_enter Try.func8, Try.ntmps8
    go_wp2_with fail
    (go_at_call 30; refine (HB.out _).mono ?_; rintro e w1 ⟨rfl, hb_w1⟩; refine have_then (P := w1.heap[w.heap.size]? = some (.cells #[.int .i64 c.sets, .int .i64 c.ways, .int .i64 c.doms, .int .i64 c.pad, .int .i64 c.quantum, .slice S.a0 c.slots.length S.n0, .slice S.a1 c.owners.length S.n1, .slice S.a2 c.chans.length S.n2, .slice S.a3 c.tasks.length S.n3] 27)) ((hb_w1.block _ byS).trans byH) (fun c_w1 => ?_); obtain ⟨cc_w1, fc_w1, zc_w1⟩ := blk c_w1; refine have_then (P := w1.heap[w.heap.size + 1]? = some (.cells #[.slice T.a0 d.jobs.length T.n0, .slice T.a1 d.released.length T.n1, .int .i64 d.next, .slice T.a2 d.ins.length T.n2, .slice T.a3 d.taken.length T.n3, .slice T.a4 d.outs.length T.n4, .slice T.a5 d.events.length T.n5] 45)) ((hb_w1.block _ byS).trans byH) (fun d_w1 => ?_); obtain ⟨cd_w1, fd_w1, zd_w1⟩ := blk d_w1; refine have_then (P := w1.heap[w.heap.size + 2]? = some (.cells #[.slice A k.length n] 63)) ((hb_w1.block _ byS).trans byH) (fun k_w1 => ?_); obtain ⟨ck_w1, fk_w1, zk_w1⟩ := blk k_w1; refine have_then (P := w1.heap[w.heap.size + 3]? = some (.cells #[.int .i64 t0, .int .i64 t1] 47)) ((hb_w1.block _ byS).trans byH) (fun u_w1 => ?_); obtain ⟨cu_w1, fu_w1, zu_w1⟩ := blk u_w1; refine have_then (P := Below w.heap.size w w1) byB (fun h_w1 => ?_); have s_w1 := Below.size h_w1; have t_w1 := Below.size hb_w1; (try simp at t_w1); revert hb_w1; intro hb_w1)
    go_wp2_with fail
    (go_at_call 32; refine (HR.out _ byB).mono ?_; rintro e w2 ⟨T1, G1, A1, n1, F1, rfl, hO1, hK1, hG1, hF1, hb_w2⟩; refine have_then (P := w2.heap[w.heap.size]? = some (.cells #[.int .i64 c.sets, .int .i64 c.ways, .int .i64 c.doms, .int .i64 c.pad, .int .i64 c.quantum, .slice S.a0 c.slots.length S.n0, .slice S.a1 c.owners.length S.n1, .slice S.a2 c.chans.length S.n2, .slice S.a3 c.tasks.length S.n3] 27)) ((hb_w2.block _ byS).trans byH) (fun c_w2 => ?_); obtain ⟨cc_w2, fc_w2, zc_w2⟩ := blk c_w2; refine have_then (P := w2.heap[w.heap.size + 1]? = some (.cells #[.slice T.a0 d.jobs.length T.n0, .slice T.a1 d.released.length T.n1, .int .i64 d.next, .slice T.a2 d.ins.length T.n2, .slice T.a3 d.taken.length T.n3, .slice T.a4 d.outs.length T.n4, .slice T.a5 d.events.length T.n5] 45)) ((hb_w2.block _ byS).trans byH) (fun d_w2 => ?_); obtain ⟨cd_w2, fd_w2, zd_w2⟩ := blk d_w2; refine have_then (P := w2.heap[w.heap.size + 2]? = some (.cells #[.slice A k.length n] 63)) ((hb_w2.block _ byS).trans byH) (fun k_w2 => ?_); obtain ⟨ck_w2, fk_w2, zk_w2⟩ := blk k_w2; refine have_then (P := w2.heap[w.heap.size + 3]? = some (.cells #[.int .i64 t0, .int .i64 t1] 47)) ((hb_w2.block _ byS).trans byH) (fun u_w2 => ?_); obtain ⟨cu_w2, fu_w2, zu_w2⟩ := blk u_w2; refine have_then (P := Below w.heap.size w w2) byB (fun h_w2 => ?_); have s_w2 := Below.size h_w2; have t_w2 := Below.size hb_w2; (try simp at t_w2); revert hb_w2; intro hb_w2; clear c_w1 cc_w1 fc_w1 d_w1 cd_w1 fd_w1 k_w1 ck_w1 fk_w1 u_w1 cu_w1 fu_w1)
    clear hO1 hK1 hG1 hF1
    go_wp2_with fail
    go_ret
    exact ⟨rfl, byB⟩
end Go.Proofs.Ytinlmkhlgclbfab
