/- TurnH -/
import Derived.Test.YtinlmkhlgclbfabTsC01
import Derived.Test.YtinlmkhlgclbfabTsC04
import Derived.Test.YtinlmkhlgclbfabTsA34
namespace Go.Proofs.Ytinlmkhlgclbfab
open Go.RowKit
set_option maxRecDepth 100000
set_option maxHeartbeats 8000000

def RetDoms (ds : List TDom) (w : World) (e : Ending) (w' : World) : Prop := ∃ A n, e = .returned (.slice A ds.length n) ∧ DomsO (Rng w.heap.size w'.heap.size) w' (.slice A ds.length n) ds ∧ Below w.heap.size w w'
theorem refCommitOfC (vs ys : List Int) (lost : Int) (size : Nat) (A A' : Option Addr) (c c' : Nat) (B : Nat) (w : World) (hB : B ≤ w.heap.size) (hs : Sl cInt (Low B) w A c vs) (hs' : Sl cInt (Low B) w A' c' ys)
    (hsize : size ≤ 4) (hvs : vs.length ≤ size) (hl0 : 0 ≤ lost) (hl1 : lost ≤ 100000) :
    Calls Try.prog 62 #[.agg #[.slice A vs.length c, .int .i64 lost], .int .i64 size, .slice A' ys.length c'] w (RetRing (comeVals vs ys size) (comeLost vs ys lost size) w) := by
  have h := refCommitOf vs ys lost size A A' c c' B w hB hs hs' (by omega) (by omega) hl0
  rw [commitFold_eq ys vs lost size hvs hl0 hl1] at h
  exact h

theorem refCloseOf (c : TCfg) (S : TCfgS) (ds : List TDom) (A : Option Addr) (n : Nat) (s : Int) (ok : CfgOk c) (hds : LvOk c ds) (h : 0 ≤ s ∧ s < c.slots.length) (hz : ∀ k, k < ds.length → DomSz (nth ds k)) (B : Nat) (w : World) (hB : B ≤ w.heap.size) (hs : TCfg.At (Low B) w c S) (hd : Sl cDom (Low B) w A n ds) :
    Calls Try.prog 22 #[.agg #[.int .i64 c.sets, .int .i64 c.ways, .int .i64 c.doms, .int .i64 c.pad, .int .i64 c.quantum, .slice S.a0 c.slots.length S.n0, .slice S.a1 c.owners.length S.n1, .slice S.a2 c.chans.length S.n2, .slice S.a3 c.tasks.length S.n3], .slice A ds.length n, .int .i64 s] w (RetDoms (closeOf c s ds) w) := by
  obtain ⟨sn, rfl⟩ := Int.eq_ofNat_of_zero_le h.1
  have hsn : sn < c.slots.length := by omega
  have n6 := ok.nslots
  have n4 := ok.nchans
  have hd4 : ds.length ≤ 4 := by have := hds.len; have := ok.doms; omega
  have hdm := ok.slot sn hsn
  have HC := Lib.hid (show ∀ D, D = (nth c.slots sn).dom → closeOf c sn ds = upTo (closeStep c D) (c.chans.length - 0) 0 ds from fun D e => by subst e; rfl)
  have H4 := Lib.hid (fun k (hk : k < ds.length) (T : TDomS) W (h : Below w.heap.size w W) (hT : TDom.At (Low B) W (nth ds k) T) => refCopyDomain (nth ds k) T (hz k hk) B W (Nat.le_trans hB h.size) hT)
  have HD0 := Lib.hid hd
  have HLN := Lib.hid (closeUp_len c (slotDom c sn) c.chans.length 0 ds)
  have HS := Lib.hid hs
  have hdsh := Lib.hid hds
  (obtain ⟨a0, n0, a1, n1, a2, n2, a3, n3⟩ := S; obtain ⟨hs0, hs1, hs2, hs3⟩ := hs; dsimp only at hs0 hs1 hs2 hs3 ⊢)
  obtain ⟨b1, o1, e1, hI1, k0, k1⟩ := hs0.at_slot hsn
  have hbl : b1 < w.heap.size := Nat.lt_of_lt_of_le hI1 hB
  have i0 : (0 : Int) ≤ sn := by omega
  have i1 : (sn : Int) < c.slots.length := by omega
  have m2 := Nat.le_trans hs2.cap hs2.max
  unfold maxLen at m2
  subst e1
  generalize hD : (nth c.slots sn).dom = D at *
  have KD := Lib.hid (fun W (h : Below w.heap.size w W) => (show W.cell? ⟨b1, o1 + sn * 2, none⟩ = some (.int .i64 D) from (h.cell (p := ⟨b1, _, none⟩) hbl).trans k0))
  clear hs0 hs1 hs2 hs3 k0 k1 hd hds hz hD
  go_enter Try.func22, Try.ntmps22
  go_wp2_with fail
  go_loopw [7, 8] (fun ov iv wr => ∃ (i : Nat) (A1 : Option Addr) (m1 : Nat), i ≤ ds.length ∧ iv = .int .i64 i ∧ ov = .slice A1 i m1 ∧ DomsO (Rng (w.heap.size + 1) wr.heap.size) wr (.slice A1 i m1) (ds.take i) ∧ wr.heap[w.heap.size]? = some (.cells #[.int .i64 c.sets, .int .i64 c.ways, .int .i64 c.doms, .int .i64 c.pad, .int .i64 c.quantum, .slice (some ⟨b1, o1, none⟩) c.slots.length n0, .slice a1 c.owners.length n1, .slice a2 c.chans.length n2, .slice a3 c.tasks.length n3] 27) ∧ Below w.heap.size w wr) (fun _ iv _ => ds.length - (intOf iv).toNat)
  case atStart => exact ⟨0, none, 0, Nat.zero_le _, rfl, rfl, OZl.nil _ _ _ _, byH, byB⟩
  case round =>
    obtain ⟨i, A1, m1, hi, rfl, rfl, hO, hbx, hbr⟩ := hrel
    have so := hbr.size
    obtain ⟨cx, fx, zx⟩ := blk hbx
    by_cases hlt : i < ds.length
    · have hi0 : (0 : Int) ≤ i := by omega
      have hi1 : (i : Int) < ds.length := by omega
      obtain ⟨b, o, T, rfl, hI, d0, d1, d2, d3, d4, d5, d6, hT⟩ := (HD0.out.next hB hbr).at_dom hlt
      have hI := Nat.lt_of_lt_of_le hI hB
      have hbl2 : b < wr.heap.size := by omega
      have H4a := Lib.hid (H4.out i hlt T wr hbr hT)
      obtain ⟨all, hown, hrow, happ⟩ := doms_step (len_take (Nat.le_of_lt hlt)) hO
      have happ := Lib.hid happ
      have hown := Lib.hid hown
      clear hT hO
      go_wp2_with fail
      go_at_call 58
      refine H4a.out.mono ?_
      rintro e w4 ⟨T4, G4, rfl, hO4, hG4, hb4⟩
      have z4 := hb4.size
      have hc4 : w4.heap[w.heap.size]? = some (.cells #[.int .i64 c.sets, .int .i64 c.ways, .int .i64 c.doms, .int .i64 c.pad, .int .i64 c.quantum, .slice (some ⟨b1, o1, none⟩) c.slots.length n0, .slice a1 c.owners.length n1, .slice a2 c.chans.length n2, .slice a3 c.tasks.length n3] 27) := (hb4.block _ (by omega)).trans hbx
      have hlt4 := hO4.lt
      have hG5 : ∀ j b, G4 j b → wr.heap.size ≤ b ∧ b < w4.heap.size := fun j b hb => ⟨hG4 j b hb, hlt4 j b hb⟩
      have happ2 := Lib.hid (fun (w5 : World) A5 n5 own5 gr5 at5 => happ.out (w4.alloc (.cells #[.slice T4.a0 (nth ds i).jobs.length T4.n0, .slice T4.a1 (nth ds i).released.length T4.n1, .int .i64 (nth ds i).next, .slice T4.a2 (nth ds i).ins.length T4.n2, .slice T4.a3 (nth ds i).taken.length T4.n3, .slice T4.a4 (nth ds i).outs.length T4.n4, .slice T4.a5 (nth ds i).events.length T4.n5] 45)) w5 w5 A5 n5 (fun b => wr.heap.size ≤ b ∧ b < w4.heap.size) (Rng (w.heap.size + 1) w5.heap.size) (nth ds i) T4 G4 own5 gr5 at5
        (hO4.keep (fun j b hb => heap_alloc_old _ _ (hlt4 j b hb)) (by simp)) hG5 (fun b hb => (heap_alloc_old _ _ (by have := hb.2; omega)).trans (hb4.block b hb.2)) (fun b hb hb2 => by have := hb.2; omega) (fun b hb => by simp; rcases hb with hb | hb; have := hb.2; omega; omega)
        (fun b hb => by have := gr5.size; simp at this; rcases hb with hb | hb; exact ⟨hb.1, by have := hb.2; omega⟩; exact ⟨by omega, by omega⟩) (fun b hb hlt => ⟨by simp at hb; omega, hlt⟩) (KeepI.refl _ _))
      have hown4 : ownsZ (w4.alloc (.cells #[.slice T4.a0 (nth ds i).jobs.length T4.n0, .slice T4.a1 (nth ds i).released.length T4.n1, .int .i64 (nth ds i).next, .slice T4.a2 (nth ds i).ins.length T4.n2, .slice T4.a3 (nth ds i).taken.length T4.n3, .slice T4.a4 (nth ds i).outs.length T4.n4, .slice T4.a5 (nth ds i).events.length T4.n5] 45)) 45 7 (.slice A1 i m1) i all := ownZ_keep hown.out fun b hb => (heap_alloc_old _ _ (by have := (hrow b hb).2; omega)).trans (hb4.block b (hrow b hb).2)
      have hone := one_dom (nth ds i) T4
      have hout := Lib.hid (fun (w5 : World) (gr5 : (w4.alloc (.cells #[.slice T4.a0 (nth ds i).jobs.length T4.n0, .slice T4.a1 (nth ds i).released.length T4.n1, .int .i64 (nth ds i).next, .slice T4.a2 (nth ds i).ins.length T4.n2, .slice T4.a3 (nth ds i).taken.length T4.n3, .slice T4.a4 (nth ds i).outs.length T4.n4, .slice T4.a5 (nth ds i).events.length T4.n5] 45)).grownBy w5 (rowZ (.slice A1 i m1))) => (⟨(gr5.block _ (by simp; omega) (fun e => by have := (hrow _ e.symm).1; omega)).trans ((heap_alloc_old _ _ (by omega)).trans hc4), Below.grown (Below.alloc (hbr.trans (hb4.mono so)) (by omega) _) gr5 (by simp; omega) (fun k hk => by have := (hrow k hk).1; omega)⟩ : w5.heap[w.heap.size]? = some (.cells #[.int .i64 c.sets, .int .i64 c.ways, .int .i64 c.doms, .int .i64 c.pad, .int .i64 c.quantum, .slice (some ⟨b1, o1, none⟩) c.slots.length n0, .slice a1 c.owners.length n1, .slice a2 c.chans.length n2, .slice a3 c.tasks.length n3] 27) ∧ Below w.heap.size w w5))
      replace hown4 := Lib.hid hown4
      replace hO4 := Lib.hid hO4
      replace hG4 := Lib.hid hG4
      replace hG5 := Lib.hid hG5
      replace hlt4 := Lib.hid hlt4
      replace hrow := Lib.hid hrow
      have htk : ds.take (i + 1) = ds.take i ++ [nth ds i] := take_snoc hlt
      replace htk := Lib.hid htk
      clear happ hown d0 d1 d2 d3 d4 d5 d6
      go_wp2_with (at_builtin; refine wpList_appZ rfl (.tmp 17) (.tmp 23) _ rfl tyDom (.slice A1 i m1) i all (by rfl) hown4.out (some ⟨w4.heap.size, 0, none⟩) 1 1 (TDom.cells (nth ds i) T4) (by rfl) (Src.of_new (heap_alloc_new _ _) rfl) hone (by unfold maxLen; omega) (by omega) (fun A5 n5 w5 own5 gr5 at5 => ?_); obtain ⟨hc5, hb5⟩ := hout.out w5 gr5; have hO5 := Lib.hid (happ2.out w5 A5 n5 own5 gr5 at5); clear own5 gr5 at5)
      exact ⟨⟨i + 1, A5, n5, by omega, by go_num, rfl, by rw [htk.out]; exact hO5.out, hc5, hb5⟩, by simp [intOf]; omega⟩
    · obtain rfl : i = ds.length := by omega
      rw [List.take_of_length_le (Nat.le_refl _)] at hO
      have hL0 : LvW w (fun _ => False) w.heap.size c ⟨some ⟨b1, o1, none⟩, n0, a1, n1, a2, n2, a3, n3⟩ A1 m1 ds wr :=
        ⟨⟨_, hO, ⟨hbr, fun b hb _ => hbr.block b hb, fun _ b hb => .inr ⟨by have := hb.1; omega, hb.2⟩⟩, fun b hb => hb.2, fun b hb => .inr (by have := hb.1; omega)⟩, hbx, by omega, fun _ h => h.elim, Nat.le_refl _, fun _ h => h.elim, hdsh.out⟩
      replace hL0 := Lib.hid hL0
      clear hO hbx hi
      go_wp2_with fail
      clear cx fx zx
      obtain ⟨wb, hwb⟩ : ∃ X, X = wr := ⟨_, rfl⟩
      clear hwb
      go_loopw [9] (fun iv wr => ∃ (i : Nat) (dsi : List TDom), i ≤ c.chans.length ∧ iv = .int .i64 i ∧ Hid (closeOf c sn ds = upTo (closeStep c D) (c.chans.length - i) i dsi) ∧ dsi.length = ds.length ∧ LvW w (fun _ => False) w.heap.size c ⟨some ⟨b1, o1, none⟩, n0, a1, n1, a2, n2, a3, n3⟩ A1 m1 dsi wr) (fun iv _ => c.chans.length - (intOf iv).toNat)
      case atStart => exact ⟨0, ds, Nat.zero_le _, rfl, Lib.hid (HC.out D rfl), rfl, hL0.out⟩
      case round =>
        clear hbr so
        obtain ⟨i, dsi, hi, rfl, hcl, hle, hL⟩ := hrel
        have hz0 := hL.size
        by_cases hlt : i < c.chans.length
        · have hbw : Below w.heap.size w wr := by
            obtain ⟨F', _, hE, _⟩ := hL.all
            exact hE.below
          have hc2 : Sl cChan (Low B) wr a2 n2 c.chans := (HS.out.next hB hbw).s2
          obtain ⟨b2, o2, rfl, hI2, x0, x1, x2⟩ := hc2.at_chan hlt
          have hbx := hL.box
          obtain ⟨c0, f0, z0⟩ := blk hbx
          have hI2 : b2 < B := hI2
          have hbr : b2 < wr.heap.size := by omega
          have j0 : (0 : Int) ≤ i := by omega
          have j1 : (i : Int) < c.chans.length := by omega
          have hch := ok.chan i hlt
          have kdw := KD.out wr hbw
          have hbl1 : b1 < wr.heap.size := by omega
          by_cases hx : (nth c.chans i).src = D
          · have hbx1 : ((nth c.chans i).src == D) = true := by simp [hx]
            obtain ⟨F1, hO1, hE1, hF1, hn1⟩ := hL.all
            have hok := hL.ok
            have hlen := hok.len
            obtain ⟨tq, hto⟩ := Int.eq_ofNat_of_zero_le hch.2.1.1
            obtain ⟨fr, hfr⟩ := Int.eq_ofNat_of_zero_le hch.1.1
            obtain ⟨sz, hsz⟩ := Int.eq_ofNat_of_zero_le (show 0 ≤ (nth c.chans i).size by omega)
            have hDf : D = (fr : Int) := by rw [← hx, hfr]
            have hto2 : tq < dsi.length := by omega
            have hfr2 : fr < dsi.length := by omega
            have hne : fr ≠ tq := by intro e; apply hch.2.2.1; rw [hto, hfr, e]
            have hmv : moveTo c i dsi = dsi.set tq { nth dsi tq with ins := (nth dsi tq).ins.set i (comeR (nth (nth dsi tq).ins i) sz (nth (nth dsi fr).outs i)) } := by unfold moveTo; rw [hto, hfr, hsz]; rfl
            have hem : emptyOut c i (moveTo c i dsi) = (moveTo c i dsi).set fr { nth (moveTo c i dsi) fr with outs := (nth (moveTo c i dsi) fr).outs.set i [] } := by unfold emptyOut; rw [hfr]; rfl
            have hstep : closeStep c D i dsi = emptyOut c i (moveTo c i dsi) := by unfold closeStep; rw [if_pos hx]
            have hok1 := hok.move ok hlt
            have hok2 := hok1.empty ok hlt
            have hi1 : i < (nth dsi tq).ins.length := by rw [hok.ins _ hto2]; exact hlt
            have hi2 : i < (nth dsi fr).outs.length := by rw [hok.outs _ hfr2]; exact hlt
            have hrg := hok.ring tq i hto2 hlt
            have hou := hok.out fr i hfr2 hlt
            -- the world behind the channel's box
            have hEa : Below wr.heap.size wr (wr.alloc (.cells #[.int .i64 fr, .int .i64 tq, .int .i64 sz] 101)) := byB
            rw [hfr] at x0
            rw [hto] at x1
            rw [hsz] at x2
            have hWa : ∃ Wa, Wa = wr.alloc (.cells #[.int .i64 fr, .int .i64 tq, .int .i64 sz] 101) := ⟨_, rfl⟩
            obtain ⟨Wa, hWa⟩ := hWa
            rw [← hWa] at hEa
            have hsa : Wa.heap.size = wr.heap.size + 1 := by rw [hWa]; simp
            have hOa : DomsO F1 Wa (.slice A1 dsi.length m1) dsi := hO1.keep fun b hb => hEa.block b (hF1 b hb)
            have hFa : ∀ b, F1 b → b < Wa.heap.size := fun b hb => by have := hF1 b hb; omega
            obtain ⟨gd, g, ni, Ar, cr, eA, hFd, hgd, cI, hFg, hgne, r0, r1, hfz, hslr, hput⟩ := doms_ring hOa hto2 hi1 hFa
            obtain ⟨gd', go, no, Ao, co, eA', hFd', hgd', cO, hFo, hone, q0, hfo, hslo, _⟩ := doms_out hOa hfr2 hi2 hFa
            obtain rfl : gd = gd' := by rw [eA] at eA'; injection eA' with eA'; injection eA'
            subst eA
            have hgr : gd < wr.heap.size := hF1 gd hFd
            have hgo : go < wr.heap.size := hF1 go hFo
            have hgg : g < wr.heap.size := hF1 g hFg
            have cI0 : wr.cell? ⟨gd, tq * 7 + 3, none⟩ = some (.slice (some ⟨g, 0, none⟩) (nth dsi tq).ins.length ni) := (hEa.cell (p := ⟨gd, _, none⟩) hgr).symm.trans cI
            have KI := Lib.hid (fun W (h : Below Wa.heap.size Wa W) => (h.cell (p := ⟨gd, tq * 7 + 3, none⟩) hgd).trans cI)
            have KO := Lib.hid (fun W (h : Below Wa.heap.size Wa W) => (h.cell (p := ⟨gd, fr * 7 + 5, none⟩) hgd).trans cO)
            have KQ := Lib.hid (fun W (h : Below Wa.heap.size Wa W) => (h.cell (p := ⟨go, i, none⟩) (hFa go hFo)).trans q0)
            have KR := Lib.hid (fun W (h : Below Wa.heap.size Wa W) => (⟨(h.cell (p := ⟨g, i * 2, none⟩) (hFa g hFg)).trans r0, (h.cell (p := ⟨g, i * 2 + 1, none⟩) (hFa g hFg)).trans r1⟩ : _ ∧ _))
            have KF := Lib.hid (fun W (h : Below Wa.heap.size Wa W) => (fun o => (h.frozen (p := ⟨g, o, none⟩) (hFa g hFg)).trans (hfz o) : ∀ o, W.frozen? ⟨g, o, none⟩ = false))
            have hbx2 : Wa.heap[wr.heap.size]? = some (.cells #[.int .i64 fr, .int .i64 tq, .int .i64 sz] 101) := by rw [hWa]; exact byH
            have KX := Lib.hid (fun W (h : Below Wa.heap.size Wa W) => (h.block _ (by omega)).trans hbx2)
            have KC := Lib.hid (fun W (h : Below Wa.heap.size Wa W) => (h.block _ (by omega)).trans ((hEa.block _ (by omega)).trans hbx))
            have HM := Lib.hid (fun W (h : Below Wa.heap.size Wa W) => refCommitOfC (nth (nth dsi tq).ins i).vals (nth (nth dsi fr).outs i) (nth (nth dsi tq).ins i).lost sz Ar Ao cr co Wa.heap.size W h.size ((hslr.mono fun b hb => hFa b hb).keep fun b hb => h.block b hb) ((hslo.mono fun b hb => hFa b hb).keep fun b hb => h.block b hb) (by omega) (by omega) hrg.2.1 hrg.2.2)
            have j2 : (tq : Int) < ds.length := by omega
            have j3 : (0 : Int) ≤ tq := by omega
            have j4 : (i : Int) < (nth dsi tq).ins.length := by omega
            have j5 : (fr : Int) < ds.length := by omega
            have j6 : (0 : Int) ≤ fr := by omega
            have j7 : (i : Int) < (nth dsi fr).outs.length := by omega
            have hput2 := Lib.hid hput
            have hst := Lib.hid (⟨hx, hto, hfr, hsz, hDf, hmv, hem, hstep, hsa, hle, hlen⟩ : _ ∧ _ ∧ _ ∧ _ ∧ _ ∧ _ ∧ _ ∧ _ ∧ _ ∧ _ ∧ _)
            have hfacts := Lib.hid (⟨hOa, hslr, hslo, hO1, hE1, hn1, hL⟩ : _ ∧ _ ∧ _ ∧ _ ∧ _ ∧ _ ∧ _)
            have hle2 : Wa.heap.size ≤ wr.heap.size + 1 := by omega
            have hle3 : wr.heap.size + 1 ≤ Wa.heap.size := by omega
            have hdl : ds.length = dsi.length := hle.symm
            replace hdl := Lib.hid hdl
            clear hx hto hfr hsz hmv hem hstep hsa hle hlen hslr hslo hput hOa hO1 hL hfz hfo cI cO q0 r0 r1 hbx2
            subst hDf
            replace hWa := Lib.hid hWa
            go_wp2_with fail
            go_quiet (fail)
            go_wp2_with fail
            rw [← hWa.out]
            have hWb : Below Wa.heap.size Wa (Wa.drewN nq) := below_drewN (Below.refl _ _) nq
            refine wp_region_invT 28 [46, 47, 48, 49, 50, 51, 52, 53, 54, 55, 56, 57, 58, 59, 60, 61, 62, 63, 64, 65, 66, 67, 68, 69, 70, 71, 72, 73] (fun l f W => (Below Wa.heap.size Wa W) ∧ Fa l 0 (f 46 = .slice (some ⟨gd, 0, none⟩) ds.length m1) ∧ Fa l 1 (f 47 = .pointer (some ⟨wr.heap.size, 1, none⟩)) ∧ Fa l 2 (f 48 = .int .i64 tq) ∧ Fa l 3 (f 49 = .pointer (some ⟨gd, tq * 7, none⟩)) ∧ Fa l 4 (f 50 = .pointer (some ⟨gd, tq * 7 + 3, none⟩)) ∧ Fa l 5 (f 51 = .slice (some ⟨g, 0, none⟩) (nth dsi tq).ins.length ni) ∧ Fa l 6 (f 52 = .int .i64 i) ∧ Fa l 7 (f 53 = .slice (some ⟨gd, 0, none⟩) ds.length m1) ∧ Fa l 8 (f 54 = .pointer (some ⟨wr.heap.size, 1, none⟩)) ∧ Fa l 9 (f 55 = .int .i64 tq) ∧ Fa l 10 (f 56 = .pointer (some ⟨gd, tq * 7, none⟩)) ∧ Fa l 11 (f 57 = .pointer (some ⟨gd, tq * 7 + 3, none⟩)) ∧ Fa l 12 (f 58 = .slice (some ⟨g, 0, none⟩) (nth dsi tq).ins.length ni) ∧ Fa l 13 (f 59 = .int .i64 i) ∧ Fa l 14 (f 60 = .pointer (some ⟨g, i * 2, none⟩)) ∧ Fa l 15 (f 61 = .agg #[.slice Ar (nth (nth dsi tq).ins i).vals.length cr, .int .i64 (nth (nth dsi tq).ins i).lost]) ∧ Fa l 16 (f 62 = .pointer (some ⟨wr.heap.size, 2, none⟩)) ∧ Fa l 17 (f 63 = .int .i64 sz) ∧ Fa l 18 (f 64 = .slice (some ⟨gd, 0, none⟩) ds.length m1) ∧ Fa l 19 (f 65 = .pointer (some ⟨wr.heap.size, 0, none⟩)) ∧ Fa l 20 (f 66 = .int .i64 fr) ∧ Fa l 21 (f 67 = .pointer (some ⟨gd, fr * 7, none⟩)) ∧ Fa l 22 (f 68 = .pointer (some ⟨gd, fr * 7 + 5, none⟩)) ∧ Fa l 23 (f 69 = .slice (some ⟨go, 0, none⟩) (nth dsi fr).outs.length no) ∧ Fa l 24 (f 70 = .int .i64 i) ∧ Fa l 25 (f 71 = .pointer (some ⟨go, i, none⟩)) ∧ Fa l 26 (f 72 = .slice Ao (nth (nth dsi fr).outs i).length co) ∧ Fa l 27 (∃ A3 c3, f 73 = .agg #[.slice A3 (comeVals (nth (nth dsi tq).ins i).vals (nth (nth dsi fr).outs i) sz).length c3, .int .i64 (comeLost (nth (nth dsi tq).ins i).vals (nth (nth dsi fr).outs i) (nth (nth dsi tq).ins i).lost sz)] ∧ ownsZ W 3 1 (.slice A3 (comeVals (nth (nth dsi tq).ins i).vals (nth (nth dsi fr).outs i) sz).length c3) (comeVals (nth (nth dsi tq).ins i).vals (nth (nth dsi fr).outs i) sz).length ((comeVals (nth (nth dsi tq).ins i).vals (nth (nth dsi fr).outs i) sz).flatMap fun n => [Value.int .i64 n]) ∧ (∀ b, rowZ (.slice A3 (comeVals (nth (nth dsi tq).ins i).vals (nth (nth dsi fr).outs i) sz).length c3) = some b → Wa.heap.size ≤ b ∧ b < W.heap.size))) (by kernel_rfl) (by decide) (by kernel_rfl) (by kernel_rfl) (by intro s hs; simp at hs ⊢; omega) ?_ ?_ ?_
            · intro l hz hl
              exact ⟨hWb.drew, .no (hl 0), .no (hl 1), .no (hl 2), .no (hl 3), .no (hl 4), .no (hl 5), .no (hl 6), .no (hl 7), .no (hl 8), .no (hl 9), .no (hl 10), .no (hl 11), .no (hl 12), .no (hl 13), .no (hl 14), .no (hl 15), .no (hl 16), .no (hl 17), .no (hl 18), .no (hl 19), .no (hl 20), .no (hl 21), .no (hl 22), .no (hl 23), .no (hl 24), .no (hl 25), .no (hl 26), .no (hl 27)⟩
            · simp only [List.take_succ_cons, List.take_zero]
              refine StepsL.cons 1 [] rfl (by kernel_rfl) rfl (by intro d hd; injection hd with hd; subst hd; decide) (fun l f W hR hn hb K Q2 hK => ?_) ?_
              · obtain ⟨hS, h0, h1, h2, h3, h4, h5, h6, h7, h8, h9, h10, h11, h12, h13, h14, h15, h16, h17, h18, h19, h20, h21, h22, h23, h24, h25, h26, h27⟩ := hR
                replace hb := Lib.hid hb
                refine ⟨?_⟩
                simp only [putF, Act.put, List.setIfInBounds_toArray, List.set_cons_zero, List.set_cons_succ] at hK ⊢
                replace hK := Lib.hid hK
                go_simp
                refine hK.out.out _ _ ⟨hS, ⟨fun _ => rfl⟩, h1.k, h2.k, h3.k, h4.k, h5.k, h6.k, h7.k, h8.k, h9.k, h10.k, h11.k, h12.k, h13.k, h14.k, h15.k, h16.k, h17.k, h18.k, h19.k, h20.k, h21.k, h22.k, h23.k, h24.k, h25.k, h26.k, h27.k⟩
              refine StepsL.cons 2 [] rfl (by kernel_rfl) rfl (by intro d hd; injection hd with hd; subst hd; decide) (fun l f W hR hn hb K Q2 hK => ?_) ?_
              · obtain ⟨hS, h0, h1, h2, h3, h4, h5, h6, h7, h8, h9, h10, h11, h12, h13, h14, h15, h16, h17, h18, h19, h20, h21, h22, h23, h24, h25, h26, h27⟩ := hR
                replace hb := Lib.hid hb
                refine ⟨?_⟩
                simp only [putF, Act.put, List.setIfInBounds_toArray, List.set_cons_zero, List.set_cons_succ] at hK ⊢
                replace hK := Lib.hid hK
                go_simp
                refine hK.out.out _ _ ⟨hS, h0.k, ⟨fun _ => rfl⟩, h2.k, h3.k, h4.k, h5.k, h6.k, h7.k, h8.k, h9.k, h10.k, h11.k, h12.k, h13.k, h14.k, h15.k, h16.k, h17.k, h18.k, h19.k, h20.k, h21.k, h22.k, h23.k, h24.k, h25.k, h26.k, h27.k⟩
              refine StepsL.cons 3 [1] rfl (by kernel_rfl) rfl (by intro d hd; injection hd with hd; subst hd; decide) (fun l f W hR hn hb K Q2 hK => ?_) ?_
              · obtain ⟨hS, h0, h1, h2, h3, h4, h5, h6, h7, h8, h9, h10, h11, h12, h13, h14, h15, h16, h17, h18, h19, h20, h21, h22, h23, h24, h25, h26, h27⟩ := hR
                have q1 := h1.out (hb 1 (by simp))
                replace hb := Lib.hid hb
                refine ⟨?_⟩
                simp only [putF, Act.put, List.setIfInBounds_toArray, List.set_cons_zero, List.set_cons_succ] at hK ⊢
                (try simp only [q1] at hK)
                replace hK := Lib.hid hK
                obtain ⟨cX, fX, zX⟩ := blk (KX.out W hS)
                go_simp
                refine hK.out.out _ _ ⟨hS, h0.k, h1.k, ⟨fun _ => rfl⟩, h3.k, h4.k, h5.k, h6.k, h7.k, h8.k, h9.k, h10.k, h11.k, h12.k, h13.k, h14.k, h15.k, h16.k, h17.k, h18.k, h19.k, h20.k, h21.k, h22.k, h23.k, h24.k, h25.k, h26.k, h27.k⟩
              refine StepsL.cons 4 [0, 2] rfl (by kernel_rfl) rfl (by intro d hd; injection hd with hd; subst hd; decide) (fun l f W hR hn hb K Q2 hK => ?_) ?_
              · obtain ⟨hS, h0, h1, h2, h3, h4, h5, h6, h7, h8, h9, h10, h11, h12, h13, h14, h15, h16, h17, h18, h19, h20, h21, h22, h23, h24, h25, h26, h27⟩ := hR
                have q0 := h0.out (hb 0 (by simp))
                have q2 := h2.out (hb 2 (by simp))
                replace hb := Lib.hid hb
                refine ⟨?_⟩
                simp only [putF, Act.put, List.setIfInBounds_toArray, List.set_cons_zero, List.set_cons_succ] at hK ⊢
                (try simp only [q0, q2] at hK)
                replace hK := Lib.hid hK
                go_simp
                refine hK.out.out _ _ ⟨hS, h0.k, h1.k, h2.k, ⟨fun _ => rfl⟩, h4.k, h5.k, h6.k, h7.k, h8.k, h9.k, h10.k, h11.k, h12.k, h13.k, h14.k, h15.k, h16.k, h17.k, h18.k, h19.k, h20.k, h21.k, h22.k, h23.k, h24.k, h25.k, h26.k, h27.k⟩
              refine StepsL.cons 5 [3] rfl (by kernel_rfl) rfl (by intro d hd; injection hd with hd; subst hd; decide) (fun l f W hR hn hb K Q2 hK => ?_) ?_
              · obtain ⟨hS, h0, h1, h2, h3, h4, h5, h6, h7, h8, h9, h10, h11, h12, h13, h14, h15, h16, h17, h18, h19, h20, h21, h22, h23, h24, h25, h26, h27⟩ := hR
                have q3 := h3.out (hb 3 (by simp))
                replace hb := Lib.hid hb
                refine ⟨?_⟩
                simp only [putF, Act.put, List.setIfInBounds_toArray, List.set_cons_zero, List.set_cons_succ] at hK ⊢
                (try simp only [q3] at hK)
                replace hK := Lib.hid hK
                go_simp
                refine hK.out.out _ _ ⟨hS, h0.k, h1.k, h2.k, h3.k, ⟨fun _ => rfl⟩, h5.k, h6.k, h7.k, h8.k, h9.k, h10.k, h11.k, h12.k, h13.k, h14.k, h15.k, h16.k, h17.k, h18.k, h19.k, h20.k, h21.k, h22.k, h23.k, h24.k, h25.k, h26.k, h27.k⟩
              refine StepsL.cons 6 [4] rfl (by kernel_rfl) rfl (by intro d hd; injection hd with hd; subst hd; decide) (fun l f W hR hn hb K Q2 hK => ?_) ?_
              · obtain ⟨hS, h0, h1, h2, h3, h4, h5, h6, h7, h8, h9, h10, h11, h12, h13, h14, h15, h16, h17, h18, h19, h20, h21, h22, h23, h24, h25, h26, h27⟩ := hR
                have q4 := h4.out (hb 4 (by simp))
                replace hb := Lib.hid hb
                refine ⟨?_⟩
                simp only [putF, Act.put, List.setIfInBounds_toArray, List.set_cons_zero, List.set_cons_succ] at hK ⊢
                (try simp only [q4] at hK)
                replace hK := Lib.hid hK
                have kc := KI.out W hS
                go_simp
                refine hK.out.out _ _ ⟨hS, h0.k, h1.k, h2.k, h3.k, h4.k, ⟨fun _ => rfl⟩, h6.k, h7.k, h8.k, h9.k, h10.k, h11.k, h12.k, h13.k, h14.k, h15.k, h16.k, h17.k, h18.k, h19.k, h20.k, h21.k, h22.k, h23.k, h24.k, h25.k, h26.k, h27.k⟩
              refine StepsL.cons 7 [] rfl (by kernel_rfl) rfl (by intro d hd; injection hd with hd; subst hd; decide) (fun l f W hR hn hb K Q2 hK => ?_) ?_
              · obtain ⟨hS, h0, h1, h2, h3, h4, h5, h6, h7, h8, h9, h10, h11, h12, h13, h14, h15, h16, h17, h18, h19, h20, h21, h22, h23, h24, h25, h26, h27⟩ := hR
                replace hb := Lib.hid hb
                refine ⟨?_⟩
                simp only [putF, Act.put, List.setIfInBounds_toArray, List.set_cons_zero, List.set_cons_succ] at hK ⊢
                replace hK := Lib.hid hK
                go_simp
                refine hK.out.out _ _ ⟨hS, h0.k, h1.k, h2.k, h3.k, h4.k, h5.k, ⟨fun _ => rfl⟩, h7.k, h8.k, h9.k, h10.k, h11.k, h12.k, h13.k, h14.k, h15.k, h16.k, h17.k, h18.k, h19.k, h20.k, h21.k, h22.k, h23.k, h24.k, h25.k, h26.k, h27.k⟩
              refine StepsL.cons 8 [] rfl (by kernel_rfl) rfl (by intro d hd; injection hd with hd; subst hd; decide) (fun l f W hR hn hb K Q2 hK => ?_) ?_
              · obtain ⟨hS, h0, h1, h2, h3, h4, h5, h6, h7, h8, h9, h10, h11, h12, h13, h14, h15, h16, h17, h18, h19, h20, h21, h22, h23, h24, h25, h26, h27⟩ := hR
                replace hb := Lib.hid hb
                refine ⟨?_⟩
                simp only [putF, Act.put, List.setIfInBounds_toArray, List.set_cons_zero, List.set_cons_succ] at hK ⊢
                replace hK := Lib.hid hK
                go_simp
                refine hK.out.out _ _ ⟨hS, h0.k, h1.k, h2.k, h3.k, h4.k, h5.k, h6.k, ⟨fun _ => rfl⟩, h8.k, h9.k, h10.k, h11.k, h12.k, h13.k, h14.k, h15.k, h16.k, h17.k, h18.k, h19.k, h20.k, h21.k, h22.k, h23.k, h24.k, h25.k, h26.k, h27.k⟩
              refine StepsL.cons 9 [] rfl (by kernel_rfl) rfl (by intro d hd; injection hd with hd; subst hd; decide) (fun l f W hR hn hb K Q2 hK => ?_) ?_
              · obtain ⟨hS, h0, h1, h2, h3, h4, h5, h6, h7, h8, h9, h10, h11, h12, h13, h14, h15, h16, h17, h18, h19, h20, h21, h22, h23, h24, h25, h26, h27⟩ := hR
                replace hb := Lib.hid hb
                refine ⟨?_⟩
                simp only [putF, Act.put, List.setIfInBounds_toArray, List.set_cons_zero, List.set_cons_succ] at hK ⊢
                replace hK := Lib.hid hK
                go_simp
                refine hK.out.out _ _ ⟨hS, h0.k, h1.k, h2.k, h3.k, h4.k, h5.k, h6.k, h7.k, ⟨fun _ => rfl⟩, h9.k, h10.k, h11.k, h12.k, h13.k, h14.k, h15.k, h16.k, h17.k, h18.k, h19.k, h20.k, h21.k, h22.k, h23.k, h24.k, h25.k, h26.k, h27.k⟩
              refine StepsL.cons 10 [8] rfl (by kernel_rfl) rfl (by intro d hd; injection hd with hd; subst hd; decide) (fun l f W hR hn hb K Q2 hK => ?_) ?_
              · obtain ⟨hS, h0, h1, h2, h3, h4, h5, h6, h7, h8, h9, h10, h11, h12, h13, h14, h15, h16, h17, h18, h19, h20, h21, h22, h23, h24, h25, h26, h27⟩ := hR
                have q8 := h8.out (hb 8 (by simp))
                replace hb := Lib.hid hb
                refine ⟨?_⟩
                simp only [putF, Act.put, List.setIfInBounds_toArray, List.set_cons_zero, List.set_cons_succ] at hK ⊢
                (try simp only [q8] at hK)
                replace hK := Lib.hid hK
                obtain ⟨cX, fX, zX⟩ := blk (KX.out W hS)
                go_simp
                refine hK.out.out _ _ ⟨hS, h0.k, h1.k, h2.k, h3.k, h4.k, h5.k, h6.k, h7.k, h8.k, ⟨fun _ => rfl⟩, h10.k, h11.k, h12.k, h13.k, h14.k, h15.k, h16.k, h17.k, h18.k, h19.k, h20.k, h21.k, h22.k, h23.k, h24.k, h25.k, h26.k, h27.k⟩
              refine StepsL.cons 11 [7, 9] rfl (by kernel_rfl) rfl (by intro d hd; injection hd with hd; subst hd; decide) (fun l f W hR hn hb K Q2 hK => ?_) ?_
              · obtain ⟨hS, h0, h1, h2, h3, h4, h5, h6, h7, h8, h9, h10, h11, h12, h13, h14, h15, h16, h17, h18, h19, h20, h21, h22, h23, h24, h25, h26, h27⟩ := hR
                have q7 := h7.out (hb 7 (by simp))
                have q9 := h9.out (hb 9 (by simp))
                replace hb := Lib.hid hb
                refine ⟨?_⟩
                simp only [putF, Act.put, List.setIfInBounds_toArray, List.set_cons_zero, List.set_cons_succ] at hK ⊢
                (try simp only [q7, q9] at hK)
                replace hK := Lib.hid hK
                go_simp
                refine hK.out.out _ _ ⟨hS, h0.k, h1.k, h2.k, h3.k, h4.k, h5.k, h6.k, h7.k, h8.k, h9.k, ⟨fun _ => rfl⟩, h11.k, h12.k, h13.k, h14.k, h15.k, h16.k, h17.k, h18.k, h19.k, h20.k, h21.k, h22.k, h23.k, h24.k, h25.k, h26.k, h27.k⟩
              refine StepsL.cons 12 [10] rfl (by kernel_rfl) rfl (by intro d hd; injection hd with hd; subst hd; decide) (fun l f W hR hn hb K Q2 hK => ?_) ?_
              · obtain ⟨hS, h0, h1, h2, h3, h4, h5, h6, h7, h8, h9, h10, h11, h12, h13, h14, h15, h16, h17, h18, h19, h20, h21, h22, h23, h24, h25, h26, h27⟩ := hR
                have q10 := h10.out (hb 10 (by simp))
                replace hb := Lib.hid hb
                refine ⟨?_⟩
                simp only [putF, Act.put, List.setIfInBounds_toArray, List.set_cons_zero, List.set_cons_succ] at hK ⊢
                (try simp only [q10] at hK)
                replace hK := Lib.hid hK
                go_simp
                refine hK.out.out _ _ ⟨hS, h0.k, h1.k, h2.k, h3.k, h4.k, h5.k, h6.k, h7.k, h8.k, h9.k, h10.k, ⟨fun _ => rfl⟩, h12.k, h13.k, h14.k, h15.k, h16.k, h17.k, h18.k, h19.k, h20.k, h21.k, h22.k, h23.k, h24.k, h25.k, h26.k, h27.k⟩
              refine StepsL.cons 13 [11] rfl (by kernel_rfl) rfl (by intro d hd; injection hd with hd; subst hd; decide) (fun l f W hR hn hb K Q2 hK => ?_) ?_
              · obtain ⟨hS, h0, h1, h2, h3, h4, h5, h6, h7, h8, h9, h10, h11, h12, h13, h14, h15, h16, h17, h18, h19, h20, h21, h22, h23, h24, h25, h26, h27⟩ := hR
                have q11 := h11.out (hb 11 (by simp))
                replace hb := Lib.hid hb
                refine ⟨?_⟩
                simp only [putF, Act.put, List.setIfInBounds_toArray, List.set_cons_zero, List.set_cons_succ] at hK ⊢
                (try simp only [q11] at hK)
                replace hK := Lib.hid hK
                have kc := KI.out W hS
                go_simp
                refine hK.out.out _ _ ⟨hS, h0.k, h1.k, h2.k, h3.k, h4.k, h5.k, h6.k, h7.k, h8.k, h9.k, h10.k, h11.k, ⟨fun _ => rfl⟩, h13.k, h14.k, h15.k, h16.k, h17.k, h18.k, h19.k, h20.k, h21.k, h22.k, h23.k, h24.k, h25.k, h26.k, h27.k⟩
              refine StepsL.cons 14 [] rfl (by kernel_rfl) rfl (by intro d hd; injection hd with hd; subst hd; decide) (fun l f W hR hn hb K Q2 hK => ?_) ?_
              · obtain ⟨hS, h0, h1, h2, h3, h4, h5, h6, h7, h8, h9, h10, h11, h12, h13, h14, h15, h16, h17, h18, h19, h20, h21, h22, h23, h24, h25, h26, h27⟩ := hR
                replace hb := Lib.hid hb
                refine ⟨?_⟩
                simp only [putF, Act.put, List.setIfInBounds_toArray, List.set_cons_zero, List.set_cons_succ] at hK ⊢
                replace hK := Lib.hid hK
                go_simp
                refine hK.out.out _ _ ⟨hS, h0.k, h1.k, h2.k, h3.k, h4.k, h5.k, h6.k, h7.k, h8.k, h9.k, h10.k, h11.k, h12.k, ⟨fun _ => rfl⟩, h14.k, h15.k, h16.k, h17.k, h18.k, h19.k, h20.k, h21.k, h22.k, h23.k, h24.k, h25.k, h26.k, h27.k⟩
              refine StepsL.cons 15 [12, 13] rfl (by kernel_rfl) rfl (by intro d hd; injection hd with hd; subst hd; decide) (fun l f W hR hn hb K Q2 hK => ?_) ?_
              · obtain ⟨hS, h0, h1, h2, h3, h4, h5, h6, h7, h8, h9, h10, h11, h12, h13, h14, h15, h16, h17, h18, h19, h20, h21, h22, h23, h24, h25, h26, h27⟩ := hR
                have q12 := h12.out (hb 12 (by simp))
                have q13 := h13.out (hb 13 (by simp))
                replace hb := Lib.hid hb
                refine ⟨?_⟩
                simp only [putF, Act.put, List.setIfInBounds_toArray, List.set_cons_zero, List.set_cons_succ] at hK ⊢
                (try simp only [q12, q13] at hK)
                replace hK := Lib.hid hK
                go_simp
                refine hK.out.out _ _ ⟨hS, h0.k, h1.k, h2.k, h3.k, h4.k, h5.k, h6.k, h7.k, h8.k, h9.k, h10.k, h11.k, h12.k, h13.k, ⟨fun _ => rfl⟩, h15.k, h16.k, h17.k, h18.k, h19.k, h20.k, h21.k, h22.k, h23.k, h24.k, h25.k, h26.k, h27.k⟩
              refine StepsL.cons 16 [14] rfl (by kernel_rfl) rfl (by intro d hd; injection hd with hd; subst hd; decide) (fun l f W hR hn hb K Q2 hK => ?_) ?_
              · obtain ⟨hS, h0, h1, h2, h3, h4, h5, h6, h7, h8, h9, h10, h11, h12, h13, h14, h15, h16, h17, h18, h19, h20, h21, h22, h23, h24, h25, h26, h27⟩ := hR
                have q14 := h14.out (hb 14 (by simp))
                replace hb := Lib.hid hb
                refine ⟨?_⟩
                simp only [putF, Act.put, List.setIfInBounds_toArray, List.set_cons_zero, List.set_cons_succ] at hK ⊢
                (try simp only [q14] at hK)
                replace hK := Lib.hid hK
                obtain ⟨kr0, kr1⟩ := KR.out W hS
                go_simp
                refine hK.out.out _ _ ⟨hS, h0.k, h1.k, h2.k, h3.k, h4.k, h5.k, h6.k, h7.k, h8.k, h9.k, h10.k, h11.k, h12.k, h13.k, h14.k, ⟨fun _ => rfl⟩, h16.k, h17.k, h18.k, h19.k, h20.k, h21.k, h22.k, h23.k, h24.k, h25.k, h26.k, h27.k⟩
              refine StepsL.cons 17 [] rfl (by kernel_rfl) rfl (by intro d hd; injection hd with hd; subst hd; decide) (fun l f W hR hn hb K Q2 hK => ?_) ?_
              · obtain ⟨hS, h0, h1, h2, h3, h4, h5, h6, h7, h8, h9, h10, h11, h12, h13, h14, h15, h16, h17, h18, h19, h20, h21, h22, h23, h24, h25, h26, h27⟩ := hR
                replace hb := Lib.hid hb
                refine ⟨?_⟩
                simp only [putF, Act.put, List.setIfInBounds_toArray, List.set_cons_zero, List.set_cons_succ] at hK ⊢
                replace hK := Lib.hid hK
                go_simp
                refine hK.out.out _ _ ⟨hS, h0.k, h1.k, h2.k, h3.k, h4.k, h5.k, h6.k, h7.k, h8.k, h9.k, h10.k, h11.k, h12.k, h13.k, h14.k, h15.k, ⟨fun _ => rfl⟩, h17.k, h18.k, h19.k, h20.k, h21.k, h22.k, h23.k, h24.k, h25.k, h26.k, h27.k⟩
              refine StepsL.cons 18 [16] rfl (by kernel_rfl) rfl (by intro d hd; injection hd with hd; subst hd; decide) (fun l f W hR hn hb K Q2 hK => ?_) ?_
              · obtain ⟨hS, h0, h1, h2, h3, h4, h5, h6, h7, h8, h9, h10, h11, h12, h13, h14, h15, h16, h17, h18, h19, h20, h21, h22, h23, h24, h25, h26, h27⟩ := hR
                have q16 := h16.out (hb 16 (by simp))
                replace hb := Lib.hid hb
                refine ⟨?_⟩
                simp only [putF, Act.put, List.setIfInBounds_toArray, List.set_cons_zero, List.set_cons_succ] at hK ⊢
                (try simp only [q16] at hK)
                replace hK := Lib.hid hK
                obtain ⟨cX, fX, zX⟩ := blk (KX.out W hS)
                go_simp
                refine hK.out.out _ _ ⟨hS, h0.k, h1.k, h2.k, h3.k, h4.k, h5.k, h6.k, h7.k, h8.k, h9.k, h10.k, h11.k, h12.k, h13.k, h14.k, h15.k, h16.k, ⟨fun _ => rfl⟩, h18.k, h19.k, h20.k, h21.k, h22.k, h23.k, h24.k, h25.k, h26.k, h27.k⟩
              refine StepsL.cons 19 [] rfl (by kernel_rfl) rfl (by intro d hd; injection hd with hd; subst hd; decide) (fun l f W hR hn hb K Q2 hK => ?_) ?_
              · obtain ⟨hS, h0, h1, h2, h3, h4, h5, h6, h7, h8, h9, h10, h11, h12, h13, h14, h15, h16, h17, h18, h19, h20, h21, h22, h23, h24, h25, h26, h27⟩ := hR
                replace hb := Lib.hid hb
                refine ⟨?_⟩
                simp only [putF, Act.put, List.setIfInBounds_toArray, List.set_cons_zero, List.set_cons_succ] at hK ⊢
                replace hK := Lib.hid hK
                go_simp
                refine hK.out.out _ _ ⟨hS, h0.k, h1.k, h2.k, h3.k, h4.k, h5.k, h6.k, h7.k, h8.k, h9.k, h10.k, h11.k, h12.k, h13.k, h14.k, h15.k, h16.k, h17.k, ⟨fun _ => rfl⟩, h19.k, h20.k, h21.k, h22.k, h23.k, h24.k, h25.k, h26.k, h27.k⟩
              refine StepsL.cons 20 [] rfl (by kernel_rfl) rfl (by intro d hd; injection hd with hd; subst hd; decide) (fun l f W hR hn hb K Q2 hK => ?_) ?_
              · obtain ⟨hS, h0, h1, h2, h3, h4, h5, h6, h7, h8, h9, h10, h11, h12, h13, h14, h15, h16, h17, h18, h19, h20, h21, h22, h23, h24, h25, h26, h27⟩ := hR
                replace hb := Lib.hid hb
                refine ⟨?_⟩
                simp only [putF, Act.put, List.setIfInBounds_toArray, List.set_cons_zero, List.set_cons_succ] at hK ⊢
                replace hK := Lib.hid hK
                go_simp
                refine hK.out.out _ _ ⟨hS, h0.k, h1.k, h2.k, h3.k, h4.k, h5.k, h6.k, h7.k, h8.k, h9.k, h10.k, h11.k, h12.k, h13.k, h14.k, h15.k, h16.k, h17.k, h18.k, ⟨fun _ => rfl⟩, h20.k, h21.k, h22.k, h23.k, h24.k, h25.k, h26.k, h27.k⟩
              refine StepsL.cons 21 [19] rfl (by kernel_rfl) rfl (by intro d hd; injection hd with hd; subst hd; decide) (fun l f W hR hn hb K Q2 hK => ?_) ?_
              · obtain ⟨hS, h0, h1, h2, h3, h4, h5, h6, h7, h8, h9, h10, h11, h12, h13, h14, h15, h16, h17, h18, h19, h20, h21, h22, h23, h24, h25, h26, h27⟩ := hR
                have q19 := h19.out (hb 19 (by simp))
                replace hb := Lib.hid hb
                refine ⟨?_⟩
                simp only [putF, Act.put, List.setIfInBounds_toArray, List.set_cons_zero, List.set_cons_succ] at hK ⊢
                (try simp only [q19] at hK)
                replace hK := Lib.hid hK
                obtain ⟨cX, fX, zX⟩ := blk (KX.out W hS)
                go_simp
                refine hK.out.out _ _ ⟨hS, h0.k, h1.k, h2.k, h3.k, h4.k, h5.k, h6.k, h7.k, h8.k, h9.k, h10.k, h11.k, h12.k, h13.k, h14.k, h15.k, h16.k, h17.k, h18.k, h19.k, ⟨fun _ => rfl⟩, h21.k, h22.k, h23.k, h24.k, h25.k, h26.k, h27.k⟩
              refine StepsL.cons 22 [18, 20] rfl (by kernel_rfl) rfl (by intro d hd; injection hd with hd; subst hd; decide) (fun l f W hR hn hb K Q2 hK => ?_) ?_
              · obtain ⟨hS, h0, h1, h2, h3, h4, h5, h6, h7, h8, h9, h10, h11, h12, h13, h14, h15, h16, h17, h18, h19, h20, h21, h22, h23, h24, h25, h26, h27⟩ := hR
                have q18 := h18.out (hb 18 (by simp))
                have q20 := h20.out (hb 20 (by simp))
                replace hb := Lib.hid hb
                refine ⟨?_⟩
                simp only [putF, Act.put, List.setIfInBounds_toArray, List.set_cons_zero, List.set_cons_succ] at hK ⊢
                (try simp only [q18, q20] at hK)
                replace hK := Lib.hid hK
                go_simp
                refine hK.out.out _ _ ⟨hS, h0.k, h1.k, h2.k, h3.k, h4.k, h5.k, h6.k, h7.k, h8.k, h9.k, h10.k, h11.k, h12.k, h13.k, h14.k, h15.k, h16.k, h17.k, h18.k, h19.k, h20.k, ⟨fun _ => rfl⟩, h22.k, h23.k, h24.k, h25.k, h26.k, h27.k⟩
              refine StepsL.cons 23 [21] rfl (by kernel_rfl) rfl (by intro d hd; injection hd with hd; subst hd; decide) (fun l f W hR hn hb K Q2 hK => ?_) ?_
              · obtain ⟨hS, h0, h1, h2, h3, h4, h5, h6, h7, h8, h9, h10, h11, h12, h13, h14, h15, h16, h17, h18, h19, h20, h21, h22, h23, h24, h25, h26, h27⟩ := hR
                have q21 := h21.out (hb 21 (by simp))
                replace hb := Lib.hid hb
                refine ⟨?_⟩
                simp only [putF, Act.put, List.setIfInBounds_toArray, List.set_cons_zero, List.set_cons_succ] at hK ⊢
                (try simp only [q21] at hK)
                replace hK := Lib.hid hK
                go_simp
                refine hK.out.out _ _ ⟨hS, h0.k, h1.k, h2.k, h3.k, h4.k, h5.k, h6.k, h7.k, h8.k, h9.k, h10.k, h11.k, h12.k, h13.k, h14.k, h15.k, h16.k, h17.k, h18.k, h19.k, h20.k, h21.k, ⟨fun _ => rfl⟩, h23.k, h24.k, h25.k, h26.k, h27.k⟩
              refine StepsL.cons 24 [22] rfl (by kernel_rfl) rfl (by intro d hd; injection hd with hd; subst hd; decide) (fun l f W hR hn hb K Q2 hK => ?_) ?_
              · obtain ⟨hS, h0, h1, h2, h3, h4, h5, h6, h7, h8, h9, h10, h11, h12, h13, h14, h15, h16, h17, h18, h19, h20, h21, h22, h23, h24, h25, h26, h27⟩ := hR
                have q22 := h22.out (hb 22 (by simp))
                replace hb := Lib.hid hb
                refine ⟨?_⟩
                simp only [putF, Act.put, List.setIfInBounds_toArray, List.set_cons_zero, List.set_cons_succ] at hK ⊢
                (try simp only [q22] at hK)
                replace hK := Lib.hid hK
                have kc := KO.out W hS
                go_simp
                refine hK.out.out _ _ ⟨hS, h0.k, h1.k, h2.k, h3.k, h4.k, h5.k, h6.k, h7.k, h8.k, h9.k, h10.k, h11.k, h12.k, h13.k, h14.k, h15.k, h16.k, h17.k, h18.k, h19.k, h20.k, h21.k, h22.k, ⟨fun _ => rfl⟩, h24.k, h25.k, h26.k, h27.k⟩
              refine StepsL.cons 25 [] rfl (by kernel_rfl) rfl (by intro d hd; injection hd with hd; subst hd; decide) (fun l f W hR hn hb K Q2 hK => ?_) ?_
              · obtain ⟨hS, h0, h1, h2, h3, h4, h5, h6, h7, h8, h9, h10, h11, h12, h13, h14, h15, h16, h17, h18, h19, h20, h21, h22, h23, h24, h25, h26, h27⟩ := hR
                replace hb := Lib.hid hb
                refine ⟨?_⟩
                simp only [putF, Act.put, List.setIfInBounds_toArray, List.set_cons_zero, List.set_cons_succ] at hK ⊢
                replace hK := Lib.hid hK
                go_simp
                refine hK.out.out _ _ ⟨hS, h0.k, h1.k, h2.k, h3.k, h4.k, h5.k, h6.k, h7.k, h8.k, h9.k, h10.k, h11.k, h12.k, h13.k, h14.k, h15.k, h16.k, h17.k, h18.k, h19.k, h20.k, h21.k, h22.k, h23.k, ⟨fun _ => rfl⟩, h25.k, h26.k, h27.k⟩
              refine StepsL.cons 26 [23, 24] rfl (by kernel_rfl) rfl (by intro d hd; injection hd with hd; subst hd; decide) (fun l f W hR hn hb K Q2 hK => ?_) ?_
              · obtain ⟨hS, h0, h1, h2, h3, h4, h5, h6, h7, h8, h9, h10, h11, h12, h13, h14, h15, h16, h17, h18, h19, h20, h21, h22, h23, h24, h25, h26, h27⟩ := hR
                have q23 := h23.out (hb 23 (by simp))
                have q24 := h24.out (hb 24 (by simp))
                replace hb := Lib.hid hb
                refine ⟨?_⟩
                simp only [putF, Act.put, List.setIfInBounds_toArray, List.set_cons_zero, List.set_cons_succ] at hK ⊢
                (try simp only [q23, q24] at hK)
                replace hK := Lib.hid hK
                go_simp
                refine hK.out.out _ _ ⟨hS, h0.k, h1.k, h2.k, h3.k, h4.k, h5.k, h6.k, h7.k, h8.k, h9.k, h10.k, h11.k, h12.k, h13.k, h14.k, h15.k, h16.k, h17.k, h18.k, h19.k, h20.k, h21.k, h22.k, h23.k, h24.k, ⟨fun _ => rfl⟩, h26.k, h27.k⟩
              refine StepsL.cons 27 [25] rfl (by kernel_rfl) rfl (by intro d hd; injection hd with hd; subst hd; decide) (fun l f W hR hn hb K Q2 hK => ?_) ?_
              · obtain ⟨hS, h0, h1, h2, h3, h4, h5, h6, h7, h8, h9, h10, h11, h12, h13, h14, h15, h16, h17, h18, h19, h20, h21, h22, h23, h24, h25, h26, h27⟩ := hR
                have q25 := h25.out (hb 25 (by simp))
                replace hb := Lib.hid hb
                refine ⟨?_⟩
                simp only [putF, Act.put, List.setIfInBounds_toArray, List.set_cons_zero, List.set_cons_succ] at hK ⊢
                (try simp only [q25] at hK)
                replace hK := Lib.hid hK
                have kc := KQ.out W hS
                go_simp
                refine hK.out.out _ _ ⟨hS, h0.k, h1.k, h2.k, h3.k, h4.k, h5.k, h6.k, h7.k, h8.k, h9.k, h10.k, h11.k, h12.k, h13.k, h14.k, h15.k, h16.k, h17.k, h18.k, h19.k, h20.k, h21.k, h22.k, h23.k, h24.k, h25.k, ⟨fun _ => rfl⟩, h27.k⟩
              refine StepsL.cons 28 [15, 17, 26] rfl (by kernel_rfl) rfl (by intro d hd; injection hd with hd; subst hd; decide) (fun l f W hR hn hb K Q2 hK => ?_) ?_
              · obtain ⟨hS, h0, h1, h2, h3, h4, h5, h6, h7, h8, h9, h10, h11, h12, h13, h14, h15, h16, h17, h18, h19, h20, h21, h22, h23, h24, h25, h26, h27⟩ := hR
                have q15 := h15.out (hb 15 (by simp))
                have q17 := h17.out (hb 17 (by simp))
                have q26 := h26.out (hb 26 (by simp))
                replace hb := Lib.hid hb
                refine ⟨?_⟩
                simp only [putF, Act.put, List.setIfInBounds_toArray, List.set_cons_zero, List.set_cons_succ] at hK ⊢
                (try simp only [q15, q17, q26] at hK)
                replace hK := Lib.hid hK
                have HC := HM.out W hS
                go_simp
                go_at_call 62
                refine HC.mono ?_
                clear HC
                rintro e w3 ⟨A3, c3, rfl, hown3, hb3⟩
                try dsimp only
                try simp only [Act.put, List.setIfInBounds_toArray, List.set_cons_zero, List.set_cons_succ]
                refine hK.out.out _ _ ⟨hS.trans (hb3.mono hS.size), h0.k, h1.k, h2.k, h3.k, h4.k, h5.k, h6.k, h7.k, h8.k, h9.k, h10.k, h11.k, h12.k, h13.k, h14.k, h15.k, h16.k, h17.k, h18.k, h19.k, h20.k, h21.k, h22.k, h23.k, h24.k, h25.k, h26.k, ⟨fun _ => ⟨A3, c3, rfl, .of hown3, fun b hb => ⟨Nat.le_trans hS.size (own_lt hown3 b (rowZ_own hb)).1, (own_lt hown3 b (rowZ_own hb)).2⟩⟩⟩⟩
              exact StepsL.nil
            · intro l f W hR hall
              obtain ⟨hS, h0, h1, h2, h3, h4, h5, h6, h7, h8, h9, h10, h11, h12, h13, h14, h15, h16, h17, h18, h19, h20, h21, h22, h23, h24, h25, h26, h27⟩ := hR
              have q0 := h0.out (hall 0 (by decide))
              have q1 := h1.out (hall 1 (by decide))
              have q2 := h2.out (hall 2 (by decide))
              have q3 := h3.out (hall 3 (by decide))
              have q4 := h4.out (hall 4 (by decide))
              have q5 := h5.out (hall 5 (by decide))
              have q6 := h6.out (hall 6 (by decide))
              have q7 := h7.out (hall 7 (by decide))
              have q8 := h8.out (hall 8 (by decide))
              have q9 := h9.out (hall 9 (by decide))
              have q10 := h10.out (hall 10 (by decide))
              have q11 := h11.out (hall 11 (by decide))
              have q12 := h12.out (hall 12 (by decide))
              have q13 := h13.out (hall 13 (by decide))
              have q14 := h14.out (hall 14 (by decide))
              have q15 := h15.out (hall 15 (by decide))
              have q16 := h16.out (hall 16 (by decide))
              have q17 := h17.out (hall 17 (by decide))
              have q18 := h18.out (hall 18 (by decide))
              have q19 := h19.out (hall 19 (by decide))
              have q20 := h20.out (hall 20 (by decide))
              have q21 := h21.out (hall 21 (by decide))
              have q22 := h22.out (hall 22 (by decide))
              have q23 := h23.out (hall 23 (by decide))
              have q24 := h24.out (hall 24 (by decide))
              have q25 := h25.out (hall 25 (by decide))
              have q26 := h26.out (hall 26 (by decide))
              have q27 := h27.out (hall 27 (by decide))
              clear h0 h1 h2 h3 h4 h5 h6 h7 h8 h9 h10 h11 h12 h13 h14 h15 h16 h17 h18 h19 h20 h21 h22 h23 h24 h25 h26 h27
              simp only [List.drop_succ_cons, List.drop_zero]
              obtain ⟨A3, c3, e27, hown3, hrow3⟩ := q27
              obtain ⟨w3, rfl⟩ : ∃ X, X = W := ⟨_, rfl⟩
              simp only [putF, Act.put, List.setIfInBounds_toArray, List.set_cons_zero, List.set_cons_succ]
              simp only [q5, q6, e27]
              clear q0 q1 q2 q3 q4 q5 q6 q7 q8 q9 q10 q11 q12 q13 q14 q15 q16 q17 q18 q19 q20 q21 q22 q23 q24 q25 q26 e27 hall
              obtain ⟨_, _, _, hsz, _, hmv, hem, hstep, hsa, hle, hlen⟩ := hst.out
              obtain ⟨hOa, _, _, hO1, hE1, hn1, hL⟩ := hfacts.out
              have hput3 := hput2.out w3 A3 c3 ⟨comeVals (nth (nth dsi tq).ins i).vals (nth (nth dsi fr).outs i) sz, comeLost (nth (nth dsi tq).ins i).vals (nth (nth dsi fr).outs i) (nth (nth dsi tq).ins i).lost sz⟩ (fun b hb => hS.block b hb) hS.size hown3 hrow3
              rw [show dsi.set tq { nth dsi tq with ins := (nth dsi tq).ins.set i ⟨comeVals (nth (nth dsi tq).ins i).vals (nth (nth dsi fr).outs i) sz, comeLost (nth (nth dsi tq).ins i).vals (nth (nth dsi fr).outs i) (nth (nth dsi tq).ins i).lost sz⟩ } = moveTo c i dsi from by rw [hmv]; simp [comeR]] at hput3
              dsimp only at hput3
              have hml := moveTo_len c i dsi
              rw [← hml] at hput3
              have hS1 := hS.size
              have hbF : ∀ b, F1 b → w.heap.size ≤ b := fun b hb => by
                rcases hE1.grow 0 b hb with h1 | h1
                · exact hL.lo b h1
                · omega
              replace hst := Lib.hid hst
              have hE4 : DEff w.heap.size (fun _ => F1) (fun _ b => F1 b ∨ (Wa.heap.size ≤ b ∧ b < w3.heap.size)) wr ((w3.setCell ⟨g, i * 2, none⟩ (.slice A3 (comeVals (nth (nth dsi tq).ins i).vals (nth (nth dsi fr).outs i) sz).length c3)).setCell ⟨g, i * 2 + 1, none⟩ (.int .i64 (comeLost (nth (nth dsi tq).ins i).vals (nth (nth dsi fr).outs i) (nth (nth dsi tq).ins i).lost sz))) := by
                refine ⟨Below.setCell (Below.setCell ((hEa.mono (by omega)).trans (hS.mono (by omega))) (hbF g hFg) _) (hbF g hFg) _, fun b hb hn => ?_, fun _ b hb => ?_⟩
                · have hne : b ≠ g := fun e => hn 0 (e ▸ hFg)
                  exact heap_set_far (heap_set_far ((hS.block b (by omega)).trans (hEa.block b hb)) hne) hne
                · rcases hb with hb | hb
                  · exact .inl hb
                  · exact .inr ⟨by omega, by simp; omega⟩
              have hi3 : i < (nth (moveTo c i dsi) fr).outs.length := by rw [hok1.outs _ (by rw [hml]; exact hfr2)]; exact hlt
              have hF2 : ∀ b, (F1 b ∨ (Wa.heap.size ≤ b ∧ b < w3.heap.size)) → b < ((w3.setCell ⟨g, i * 2, none⟩ (.slice A3 (comeVals (nth (nth dsi tq).ins i).vals (nth (nth dsi fr).outs i) sz).length c3)).setCell ⟨g, i * 2 + 1, none⟩ (.int .i64 (comeLost (nth (nth dsi tq).ins i).vals (nth (nth dsi fr).outs i) (nth (nth dsi tq).ins i).lost sz))).heap.size := fun b hb => by
                simp
                rcases hb with hb | hb
                · have := hF1 b hb; omega
                · omega
              clear hmv hstep hsa hle hlen hOa hO1 hL hsz hem
              replace hput3 := Lib.hid hput3
              replace hE4 := Lib.hid hE4
              replace hF2 := Lib.hid hF2
              replace hml := Lib.hid hml
              replace hE1 := Lib.hid hE1
              replace hown3 := Lib.hid hown3
              obtain ⟨kr0, kr1⟩ := KR.out w3 hS
              have kf3 := KF.out w3 hS
              have hx3 : ((w3.setCell ⟨g, i * 2, none⟩ (.slice A3 (comeVals (nth (nth dsi tq).ins i).vals (nth (nth dsi fr).outs i) sz).length c3)).setCell ⟨g, i * 2 + 1, none⟩ (.int .i64 (comeLost (nth (nth dsi tq).ins i).vals (nth (nth dsi fr).outs i) (nth (nth dsi tq).ins i).lost sz))).heap[wr.heap.size]? = some (.cells #[.int .i64 fr, .int .i64 tq, .int .i64 sz] 101) := heap_set_far (heap_set_far (KX.out w3 hS) (by show wr.heap.size ≠ g; omega)) (by show wr.heap.size ≠ g; omega)
              clear KI KO KQ KR KX KC KF HM hput2
              go_upto_region 12 with (fail)
              generalize hW4 : (w3.setCell _ _).setCell _ _ = W4 at *
              obtain ⟨gd2, go2, no2, Ao2, co2, eA2, hFd2, hgd2, cO2, hFo2, hone2, q02, hfo2, _, hput4⟩ := doms_out hput3.out (by rw [hml.out]; exact hfr2) hi3 hF2.out
              obtain rfl : gd = gd2 := by injection eA2 with eA2; injection eA2
              obtain ⟨cx4, fx4, zx4⟩ := blk hx3
              have j8 : (i : Int) < (nth (moveTo c i dsi) fr).outs.length := by omega
              replace hput4 := Lib.hid hput4
              clear eA2
              have hLr : Hid (closeOf c sn ds = upTo (closeStep c fr) (c.chans.length - (i + 1)) (i + 1) (emptyOut c i (moveTo c i dsi)) ∧ (emptyOut c i (moveTo c i dsi)).length = ds.length ∧ LvW w (fun _ => False) w.heap.size c ⟨some ⟨b1, o1, none⟩, n0, a1, n1, some ⟨b2, o2, none⟩, n2, a3, n3⟩ (some ⟨gd, 0, none⟩) m1 (emptyOut c i (moveTo c i dsi)) (W4.setCell ⟨go2, i, none⟩ (.slice none 0 0))) := by
                obtain ⟨_, _, _, _, _, _, hem, hstep, _, hle, _⟩ := hst.out
                obtain ⟨_, _, _, _, _, _, hL⟩ := hfacts.out
                have h4 := hput4.out
                have hel : (emptyOut c i (moveTo c i dsi)).length = (moveTo c i dsi).length := by simp [emptyOut]
                refine Lib.hid ⟨by rw [hcl.out, upTo_step _ hlt, hstep], by rw [hel, hml.out, hle], hL.turn hE1.out hn1 (F2 := fun b => F1 b ∨ (Wa.heap.size ≤ b ∧ b < w3.heap.size)) ?_ (hE4.out.trans ⟨Below.setCell (Below.refl _ _) ?_ _, fun b hb hn => heap_set_far rfl (fun e => hn 0 (e ▸ hFo2)), fun _ b hb => .inl hb⟩) (fun b hb => by simpa using hF2.out b hb) hok2⟩
                · rw [hel, hem]
                  exact h4
                · show w.heap.size ≤ go2
                  rcases hFo2 with h1 | h1
                  · exact hbF go2 h1
                  · omega
              clear hput4 hput3 hE4 hF2 hst hfacts hE1 hown3
              go_wp2_with fail
              obtain ⟨g1, g2, g3⟩ := hLr.out
              exact ⟨⟨i + 1, _, by omega, by go_num, Lib.hid g1, g2, g3⟩, by simp [intOf]; omega⟩
          · have hbx1 : ((nth c.chans i).src == D) = false := by simp [hx]
            have hstep : closeStep c D i dsi = dsi := by unfold closeStep; rw [if_neg hx]
            have hE9 : Below wr.heap.size wr (wr.alloc (.cells #[.int .i64 (nth c.chans i).src, .int .i64 (nth c.chans i).dst, .int .i64 (nth c.chans i).size] 101)) := byB
            have hL9 : LvW w (fun _ => False) w.heap.size c ⟨some ⟨b1, o1, none⟩, n0, a1, n1, some ⟨b2, o2, none⟩, n2, a3, n3⟩ A1 m1 dsi (wr.alloc (.cells #[.int .i64 (nth c.chans i).src, .int .i64 (nth c.chans i).dst, .int .i64 (nth c.chans i).size] 101)) := by
              obtain ⟨F1, hO1, hE1, hF1, hn1⟩ := hL.all
              exact hL.turn hE1 hn1 (hO1.keep fun b hb => hE9.block b (hF1 b hb)) (DEff.ext (by omega) hE9) (fun b hb => by have := hF1 b hb; simp; omega) hL.ok
            have hL9 : ∀ k, LvW w (fun _ => False) w.heap.size c ⟨some ⟨b1, o1, none⟩, n0, a1, n1, some ⟨b2, o2, none⟩, n2, a3, n3⟩ A1 m1 dsi ((wr.alloc (.cells #[.int .i64 (nth c.chans i).src, .int .i64 (nth c.chans i).dst, .int .i64 (nth c.chans i).size] 101)).drewN k) := fun k => by
              obtain ⟨F1, hO1, hE1, hF1, hn1⟩ := hL9.all
              exact hL9.turn hE1 hn1 (hO1.keep fun b hb => rfl) (DEff.ext (by simp; omega) (below_drewN (Below.refl _ _) k)) (fun b hb => hF1 b hb) hL9.ok
            have hcl2 : Hid (closeOf c sn ds = upTo (closeStep c D) (c.chans.length - (i + 1)) (i + 1) dsi) := Lib.hid (by rw [hcl.out, upTo_step _ hlt, hstep])
            clear hL hE9 hstep
            replace hle := Lib.hid hle
            replace hL9 := Lib.hid hL9
            go_wp2_with fail
            go_quiet (fail)
            go_wp2_with fail
            exact ⟨⟨i + 1, dsi, by omega, by go_num, hcl2, hle.out, hL9.out _⟩, by simp [intOf]; omega⟩
        · obtain rfl : i = c.chans.length := by omega
          have hend : closeOf c sn ds = dsi := by rw [hcl.out]; exact upTo_end _ (Nat.le_refl _) _
          have hr5 := lvW_ret hL (Below.refl _ _)
          rw [← hend] at hr5
          have hl5 : (closeOf c sn ds).length = ds.length := HLN.out
          rw [hl5] at hr5
          obtain ⟨c0, f0, z0⟩ := blk hL.box
          replace hr5 := Lib.hid hr5
          replace hl5 := Lib.hid hl5
          clear hle hend hL
          go_wp2_with fail
          refine bodyPost_ret (v := .slice A1 ds.length m1) (by simp [results, Try.results22, go_sem, *]) rfl ?_
          exact ⟨A1, m1, by rw [hl5.out], by rw [hl5.out]; exact hr5.out.1, hr5.out.2⟩
end Go.Proofs.Ytinlmkhlgclbfab
