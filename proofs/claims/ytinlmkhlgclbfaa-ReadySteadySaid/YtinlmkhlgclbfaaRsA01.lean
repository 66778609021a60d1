/- LawRdC -/
import Derived.Test.YtinlmkhlgclbfaaRtA38
import Derived.Test.YtinlmkhlgclbfaaRtA20
namespace Go.Proofs.Ytinlmkhlgclbfaa
open Go.RowKit
set_option maxRecDepth 100000
set_option maxHeartbeats 8000000

theorem relAll_keeps {c : TCfg} {dom now : Int} {P : TDom → Prop} (h : ∀ t s, P s → P (relStep c t s)) {d : TDom} (h0 : P d) : P (relAll c dom now d) :=
  upTo_keeps (N := c.tasks.length) (fun i s _ hs => by
    unfold relTask
    split
    · exact relLoop_keeps (fun s hs _ => h i s hs) _ _ hs
    · exact hs) _ _ _ (by omega) h0
theorem release_keeps {c : TCfg} {dom now : Int} {P : TDom → Prop} (h : ∀ t s, P s → P (relStep c t s)) (h2 : ∀ i s, P s → P (missStep c now i s)) {d : TDom} (h0 : P d) : P (releaseOf c dom now d) :=
  upTo_keeps (N := (relAll c dom now d).jobs.length) (fun i s _ hs => h2 i s hs) _ _ _ (by omega) (relAll_keeps h h0)
theorem missUp_events {c : TCfg} {now : Int} : ∀ (n i : Nat) (s : TDom), (upTo (missStep c now) n i s).events.length ≤ s.events.length + n := by
  intro n
  induction n with
  | zero => intro i s; exact Nat.le_refl _
  | succ n ih =>
    intro i s
    have h1 := ih (i + 1) (missStep c now i s)
    have h2 : (missStep c now i s).events.length ≤ s.events.length + 1 := by unfold missStep; split <;> simp
    show (upTo (missStep c now) n (i + 1) (missStep c now i s)).events.length ≤ _
    omega
theorem release_events {c : TCfg} {dom now : Int} {d : TDom} (h : d.jobs.length ≤ 20) : (releaseOf c dom now d).events.length ≤ d.events.length + 40 := by
  have h1 : (relAll c dom now d).events.length + d.jobs.length = d.events.length + (relAll c dom now d).jobs.length ∧ (relAll c dom now d).jobs.length ≤ 20 :=
    relAll_keeps (P := fun s => s.events.length + d.jobs.length = d.events.length + s.jobs.length ∧ s.jobs.length ≤ 20) (fun t s hs => by
      unfold relStep
      split
      · simp only [List.length_append, List.length_singleton]; omega
      · exact hs) ⟨rfl, h⟩
  have h2 := missUp_events (c := c) (now := now) (relAll c dom now d).jobs.length 0 (relAll c dom now d)
  show (upTo (missStep c now) (relAll c dom now d).jobs.length 0 (relAll c dom now d)).events.length ≤ _
  omega
theorem release_sz {c : TCfg} {dom now : Int} {d : TDom} (hz : DomSz d) (hk : DomOk c dom d) (hx : DomOk c dom (releaseOf c dom now d)) (hc : c.tasks.length ≤ 6) (hev : d.events.length + 80 ≤ 4398046511104) : DomSz (releaseOf c dom now d) := by
  obtain ⟨e1, e2, e3⟩ : (releaseOf c dom now d).ins = d.ins ∧ (releaseOf c dom now d).taken = d.taken ∧ (releaseOf c dom now d).outs = d.outs :=
    release_keeps (P := fun s => s.ins = d.ins ∧ s.taken = d.taken ∧ s.outs = d.outs) (fun t s hs => by rw [relStep_ins, relStep_taken, relStep_outs]; exact hs) (fun i s hs => by unfold missStep; split <;> exact hs) ⟨rfl, rfl, rfl⟩
  have h1 := release_events (c := c) (dom := dom) (now := now) hk.njobs
  have h2 := hx.njobs
  have h3 := hx.lrel
  exact ⟨by omega, by omega, by rw [e1]; exact hz.ins, by rw [e1]; exact hz.vals, by rw [e2]; exact hz.taken, by rw [e3]; exact hz.outs, by rw [e3]; exact hz.out, by omega⟩

theorem lawReadySteady_n (c : TCfg) (S : TCfgS) (dom : Int) (d : TDom) (T : TDomS) (now : Int) (hz : DomSz d) (hev : d.events.length + 80 ≤ 4398046511104) (B : Nat) (w : World) (hB : B ≤ w.heap.size) (hs : TCfg.At (Low B) w c S) (hd : TDom.At (Low B) w d T) (e : relErr c dom d now ≠ 0) :
    Calls Try.prog 12 #[.agg #[.int .i64 c.sets, .int .i64 c.ways, .int .i64 c.doms, .int .i64 c.pad, .int .i64 c.quantum, .slice S.a0 c.slots.length S.n0, .slice S.a1 c.owners.length S.n1, .slice S.a2 c.chans.length S.n2, .slice S.a3 c.tasks.length S.n3], .int .i64 dom, .agg #[.slice T.a0 d.jobs.length T.n0, .slice T.a1 d.released.length T.n1, .int .i64 d.next, .slice T.a2 d.ins.length T.n2, .slice T.a3 d.taken.length T.n3, .slice T.a4 d.outs.length T.n4, .slice T.a5 d.events.length T.n5], .int .i64 now] w fun en w' => en = .returned (.bool true) ∧ Below w.heap.size w w' := by
  have H0 := Lib.hid lawReadyBegun
  have HL := Lib.hid (fun W (h : Below w.heap.size w W) => readyRelease c S dom d T now hz (by omega) B W (Nat.le_trans hB h.size) (hs.next hB h) (hd.next hB h))
  have y2 : relOf c dom d now = noDom := by unfold relOf; rw [if_neg e]
  rw [y2] at HL
  have b1 : (relErr c dom d now != 0) = true := by simp [e]
  clear y2 e hz hev hs hd
  generalize relErr c dom d now = CE at *
  go_enter Try.func12, Try.ntmps12
  go_wp2_with fail
  (go_at_call 58; refine (H0.out _).mono ?_; rintro e w1 ⟨rfl, hb_w1⟩; refine have_then (P := w1.heap[w.heap.size]? = some (.cells #[.int .i64 c.sets, .int .i64 c.ways, .int .i64 c.doms, .int .i64 c.pad, .int .i64 c.quantum, .slice S.a0 c.slots.length S.n0, .slice S.a1 c.owners.length S.n1, .slice S.a2 c.chans.length S.n2, .slice S.a3 c.tasks.length S.n3] 63)) ((hb_w1.block _ byS).trans byH) (fun c_w1 => ?_); obtain ⟨cc_w1, fc_w1, zc_w1⟩ := blk c_w1; refine have_then (P := w1.heap[w.heap.size + 1]? = some (.cells #[.slice T.a0 d.jobs.length T.n0, .slice T.a1 d.released.length T.n1, .int .i64 d.next, .slice T.a2 d.ins.length T.n2, .slice T.a3 d.taken.length T.n3, .slice T.a4 d.outs.length T.n4, .slice T.a5 d.events.length T.n5] 90)) ((hb_w1.block _ byS).trans byH) (fun d_w1 => ?_); obtain ⟨cd_w1, fd_w1, zd_w1⟩ := blk d_w1; refine have_then (P := Below w.heap.size w w1) byB (fun h_w1 => ?_); have s_w1 := Below.size h_w1; have t_w1 := Below.size hb_w1; (try simp at t_w1); revert hb_w1; intro hb_w1)
  go_wp2_with fail
  (go_at_call 49; refine (HL.out _ byB).mono ?_; rintro e w2 ⟨T2, G2, rfl, hO2, hG2, hb_w2⟩; refine have_then (P := w2.heap[w.heap.size]? = some (.cells #[.int .i64 c.sets, .int .i64 c.ways, .int .i64 c.doms, .int .i64 c.pad, .int .i64 c.quantum, .slice S.a0 c.slots.length S.n0, .slice S.a1 c.owners.length S.n1, .slice S.a2 c.chans.length S.n2, .slice S.a3 c.tasks.length S.n3] 63)) ((hb_w2.block _ byS).trans byH) (fun c_w2 => ?_); obtain ⟨cc_w2, fc_w2, zc_w2⟩ := blk c_w2; refine have_then (P := w2.heap[w.heap.size + 1]? = some (.cells #[.slice T.a0 d.jobs.length T.n0, .slice T.a1 d.released.length T.n1, .int .i64 d.next, .slice T.a2 d.ins.length T.n2, .slice T.a3 d.taken.length T.n3, .slice T.a4 d.outs.length T.n4, .slice T.a5 d.events.length T.n5] 90)) ((hb_w2.block _ byS).trans byH) (fun d_w2 => ?_); obtain ⟨cd_w2, fd_w2, zd_w2⟩ := blk d_w2; refine have_then (P := Below w.heap.size w w2) byB (fun h_w2 => ?_); have s_w2 := Below.size h_w2; have t_w2 := Below.size hb_w2; (try simp at t_w2); revert hb_w2; intro hb_w2; clear c_w1 cc_w1 fc_w1 d_w1 cd_w1 fd_w1)
  clear hO2 hG2
  go_wp2_with fail
  go_ret
  exact ⟨ret_bool (by first | rfl | simp [noDom]), byB⟩

theorem lawReadySteady_p (c : TCfg) (S : TCfgS) (dom : Int) (d : TDom) (T : TDomS) (now : Int) (hz : DomSz d) (hev : d.events.length + 80 ≤ 4398046511104) (B : Nat) (w : World) (hB : B ≤ w.heap.size) (hs : TCfg.At (Low B) w c S) (hd : TDom.At (Low B) w d T) (e : relErr c dom d now = 0) (hb : bestOf c (releaseOf c dom now d).jobs < 0) :
    Calls Try.prog 12 #[.agg #[.int .i64 c.sets, .int .i64 c.ways, .int .i64 c.doms, .int .i64 c.pad, .int .i64 c.quantum, .slice S.a0 c.slots.length S.n0, .slice S.a1 c.owners.length S.n1, .slice S.a2 c.chans.length S.n2, .slice S.a3 c.tasks.length S.n3], .int .i64 dom, .agg #[.slice T.a0 d.jobs.length T.n0, .slice T.a1 d.released.length T.n1, .int .i64 d.next, .slice T.a2 d.ins.length T.n2, .slice T.a3 d.taken.length T.n3, .slice T.a4 d.outs.length T.n4, .slice T.a5 d.events.length T.n5], .int .i64 now] w fun en w' => en = .returned (.bool true) ∧ Below w.heap.size w w' := by
  obtain ⟨e1, hn⟩ : checkBoth c dom d = 0 ∧ (0 ≤ now ∧ now ≤ 100000) := by
    unfold relErr at e
    split at e
    · rename_i h; exact absurd e h
    · rename_i h
      refine ⟨Decidable.not_not.1 h, ?_⟩
      split at e
      · rename_i h2; exact inB_true.1 h2
      · exact absurd e (by decide)
  obtain ⟨ok, hk⟩ := checkBoth_ok e1
  have hkx := release_ok (dom := dom) ok hn.2 hk
  have e2 : checkBoth c dom (releaseOf c dom now d) = 0 := by unfold checkBoth; rw [thenE_zero]; exact ⟨by unfold checkBoth at e1; exact (thenE_zero.1 e1).1, domErr_zero.2 hkx⟩
  have y1 : relErr c dom (releaseOf c dom now d) now = 0 := by unfold relErr; rw [if_neg (by simp [e2]), if_pos (inB_true.2 hn)]
  have y2 : relOf c dom (releaseOf c dom now d) now = releaseOf c dom now d := by unfold relOf; rw [if_pos y1]; exact release_twice hk.lrel
  have y3 : relOf c dom d now = releaseOf c dom now d := by unfold relOf; rw [if_pos e]
  have hev2 := release_events (c := c) (dom := dom) (now := now) hk.njobs
  have hzx := release_sz hz hk hkx ok.ntasks hev
  have H0 := Lib.hid lawReadyBegun
  have HL := Lib.hid (fun W (h : Below w.heap.size w W) => readyRelease c S dom d T now hz (by omega) B W (Nat.le_trans hB h.size) (hs.next hB h) (hd.next hB h))
  rw [y3, e] at HL
  generalize releaseOf c dom now d = X at *
  have HL2 := Lib.hid (fun W T (h : Below w.heap.size w W) (hx : TDom.At (Low W.heap.size) W X T) => readyRelease c S dom X T now hzx (by omega) W.heap.size W (Nat.le_refl _) ((hs.next hB h).up (Nat.le_trans hB h.size)) hx)
  rw [y2, y1] at HL2
  have HP := Lib.hid (fun W T (h : Below w.heap.size w W) (hx : TDom.At (Low W.heap.size) W X T) => readyPick c S dom X T hzx W.heap.size W (Nat.le_refl _) ((hs.next hB h).up (Nat.le_trans hB h.size)) hx)
  simp only [e2, if_true] at HP
  have HS := Lib.hid (fun W S1 T1 (h1 : TDom.At (Low W.heap.size) W X S1) (h2 : TDom.At (Low W.heap.size) W X T1) => refSameDomain X S1 T1 W.heap.size W (Nat.le_refl _) h1 h2)
  have hn20 := hkx.njobs
  have h6 := ok.ntasks
  have HJ := Lib.hid (fun i (h : i < X.jobs.length) => (⟨hkx.job i h, ok.job (hkx.job i h)⟩ : _ ∧ _))
  obtain ⟨bl1, bl2, bl3⟩ := best_late (c := c) (js := X.jobs)
  have jl := bl1.1 hb
  have g1 : decide (bestOf c X.jobs < 0) = true := by simpa using hb
  have g2 : ((X.jobs.length : Int) == 0) = true := by simp [jl]
  have g3 : decide ((X.jobs.length : Int) ≤ bestOf c X.jobs) = false := by simp; omega
  clear y1 y2 y3 e e1 e2 hz hzx hev hev2 hd hk hkx ok bl1 bl2 bl3 hb HJ
  replace jl := Lib.hid jl
  generalize bestOf c X.jobs = bv at *
  go_enter Try.func12, Try.ntmps12
  go_wp2_with fail
  (go_at_call 58; refine (H0.out _).mono ?_; rintro e w1 ⟨rfl, hb_w1⟩; refine have_then (P := w1.heap[w.heap.size]? = some (.cells #[.int .i64 c.sets, .int .i64 c.ways, .int .i64 c.doms, .int .i64 c.pad, .int .i64 c.quantum, .slice S.a0 c.slots.length S.n0, .slice S.a1 c.owners.length S.n1, .slice S.a2 c.chans.length S.n2, .slice S.a3 c.tasks.length S.n3] 63)) ((hb_w1.block _ byS).trans byH) (fun c_w1 => ?_); obtain ⟨cc_w1, fc_w1, zc_w1⟩ := blk c_w1; refine have_then (P := w1.heap[w.heap.size + 1]? = some (.cells #[.slice T.a0 d.jobs.length T.n0, .slice T.a1 d.released.length T.n1, .int .i64 d.next, .slice T.a2 d.ins.length T.n2, .slice T.a3 d.taken.length T.n3, .slice T.a4 d.outs.length T.n4, .slice T.a5 d.events.length T.n5] 90)) ((hb_w1.block _ byS).trans byH) (fun d_w1 => ?_); obtain ⟨cd_w1, fd_w1, zd_w1⟩ := blk d_w1; refine have_then (P := Below w.heap.size w w1) byB (fun h_w1 => ?_); have s_w1 := Below.size h_w1; have t_w1 := Below.size hb_w1; (try simp at t_w1); revert hb_w1; intro hb_w1)
  go_wp2_with fail
  (go_at_call 49; refine (HL.out _ byB).mono ?_; rintro e w2 ⟨T2, G2, rfl, hO2, hG2, hb_w2⟩; refine have_then (P := w2.heap[w.heap.size]? = some (.cells #[.int .i64 c.sets, .int .i64 c.ways, .int .i64 c.doms, .int .i64 c.pad, .int .i64 c.quantum, .slice S.a0 c.slots.length S.n0, .slice S.a1 c.owners.length S.n1, .slice S.a2 c.chans.length S.n2, .slice S.a3 c.tasks.length S.n3] 63)) ((hb_w2.block _ byS).trans byH) (fun c_w2 => ?_); obtain ⟨cc_w2, fc_w2, zc_w2⟩ := blk c_w2; refine have_then (P := w2.heap[w.heap.size + 1]? = some (.cells #[.slice T.a0 d.jobs.length T.n0, .slice T.a1 d.released.length T.n1, .int .i64 d.next, .slice T.a2 d.ins.length T.n2, .slice T.a3 d.taken.length T.n3, .slice T.a4 d.outs.length T.n4, .slice T.a5 d.events.length T.n5] 90)) ((hb_w2.block _ byS).trans byH) (fun d_w2 => ?_); obtain ⟨cd_w2, fd_w2, zd_w2⟩ := blk d_w2; refine have_then (P := Below w.heap.size w w2) byB (fun h_w2 => ?_); have s_w2 := Below.size h_w2; have t_w2 := Below.size hb_w2; (try simp at t_w2); revert hb_w2; intro hb_w2; clear c_w1 cc_w1 fc_w1 d_w1 cd_w1 fd_w1)
  have hx2 := hO2.read fun i b hb => hO2.lt i b hb
  clear hO2 hG2
  go_wp2_with fail
  (go_at_call 49; refine (HL2.out _ T2 byB ((hx2.next (Nat.le_refl _) byB).up byS)).mono ?_; rintro e w3 ⟨T3, G3, rfl, hO3, hG3, hb_w3⟩; refine have_then (P := w3.heap[w.heap.size]? = some (.cells #[.int .i64 c.sets, .int .i64 c.ways, .int .i64 c.doms, .int .i64 c.pad, .int .i64 c.quantum, .slice S.a0 c.slots.length S.n0, .slice S.a1 c.owners.length S.n1, .slice S.a2 c.chans.length S.n2, .slice S.a3 c.tasks.length S.n3] 63)) ((hb_w3.block _ byS).trans byH) (fun c_w3 => ?_); obtain ⟨cc_w3, fc_w3, zc_w3⟩ := blk c_w3; refine have_then (P := w3.heap[w.heap.size + 1]? = some (.cells #[.slice T.a0 d.jobs.length T.n0, .slice T.a1 d.released.length T.n1, .int .i64 d.next, .slice T.a2 d.ins.length T.n2, .slice T.a3 d.taken.length T.n3, .slice T.a4 d.outs.length T.n4, .slice T.a5 d.events.length T.n5] 90)) ((hb_w3.block _ byS).trans byH) (fun d_w3 => ?_); obtain ⟨cd_w3, fd_w3, zd_w3⟩ := blk d_w3; refine have_then (P := w3.heap[w2.heap.size]? = some (.cells #[.slice T2.a0 X.jobs.length T2.n0, .slice T2.a1 X.released.length T2.n1, .int .i64 X.next, .slice T2.a2 X.ins.length T2.n2, .slice T2.a3 X.taken.length T2.n3, .slice T2.a4 X.outs.length T2.n4, .slice T2.a5 X.events.length T2.n5] 90)) ((hb_w3.block _ byS).trans byH) (fun x_w3 => ?_); obtain ⟨cx_w3, fx_w3, zx_w3⟩ := blk x_w3; refine have_then (P := Below w.heap.size w w3) byB (fun h_w3 => ?_); have s_w3 := Below.size h_w3; have t_w3 := Below.size hb_w3; (try simp at t_w3); revert hb_w3; intro hb_w3; clear c_w2 cc_w2 fc_w2 d_w2 cd_w2 fd_w2)
  have hy3 := hO3.read fun i b hb => hO3.lt i b hb
  clear hO3 hG3
  go_wp2_with fail
  (go_at_call 50; refine (HP.out _ T2 byB ((hx2.next (Nat.le_refl _) byB).up byS)).mono ?_; rintro e w4 ⟨rfl, hb_w4⟩; refine have_then (P := w4.heap[w.heap.size]? = some (.cells #[.int .i64 c.sets, .int .i64 c.ways, .int .i64 c.doms, .int .i64 c.pad, .int .i64 c.quantum, .slice S.a0 c.slots.length S.n0, .slice S.a1 c.owners.length S.n1, .slice S.a2 c.chans.length S.n2, .slice S.a3 c.tasks.length S.n3] 63)) ((hb_w4.block _ byS).trans byH) (fun c_w4 => ?_); obtain ⟨cc_w4, fc_w4, zc_w4⟩ := blk c_w4; refine have_then (P := w4.heap[w.heap.size + 1]? = some (.cells #[.slice T.a0 d.jobs.length T.n0, .slice T.a1 d.released.length T.n1, .int .i64 d.next, .slice T.a2 d.ins.length T.n2, .slice T.a3 d.taken.length T.n3, .slice T.a4 d.outs.length T.n4, .slice T.a5 d.events.length T.n5] 90)) ((hb_w4.block _ byS).trans byH) (fun d_w4 => ?_); obtain ⟨cd_w4, fd_w4, zd_w4⟩ := blk d_w4; refine have_then (P := w4.heap[w2.heap.size]? = some (.cells #[.slice T2.a0 X.jobs.length T2.n0, .slice T2.a1 X.released.length T2.n1, .int .i64 X.next, .slice T2.a2 X.ins.length T2.n2, .slice T2.a3 X.taken.length T2.n3, .slice T2.a4 X.outs.length T2.n4, .slice T2.a5 X.events.length T2.n5] 90)) ((hb_w4.block _ byS).trans byH) (fun x_w4 => ?_); obtain ⟨cx_w4, fx_w4, zx_w4⟩ := blk x_w4; refine have_then (P := w4.heap[w3.heap.size]? = some (.cells #[.slice T3.a0 X.jobs.length T3.n0, .slice T3.a1 X.released.length T3.n1, .int .i64 X.next, .slice T3.a2 X.ins.length T3.n2, .slice T3.a3 X.taken.length T3.n3, .slice T3.a4 X.outs.length T3.n4, .slice T3.a5 X.events.length T3.n5] 90)) ((hb_w4.block _ byS).trans byH) (fun y_w4 => ?_); obtain ⟨cy_w4, fy_w4, zy_w4⟩ := blk y_w4; refine have_then (P := Below w.heap.size w w4) byB (fun h_w4 => ?_); have s_w4 := Below.size h_w4; have t_w4 := Below.size hb_w4; (try simp at t_w4); revert hb_w4; intro hb_w4; clear c_w3 cc_w3 fc_w3 d_w3 cd_w3 fd_w3 x_w3 cx_w3 fx_w3)
  go_wp2_with fail
  (go_at_call 61; refine (HS.out _ T2 T3 ((hx2.next (Nat.le_refl _) byB).up byS) ((hy3.next (Nat.le_refl _) byB).up byS)).mono ?_; rintro e w5 ⟨rfl, hb_w5⟩; refine have_then (P := w5.heap[w.heap.size]? = some (.cells #[.int .i64 c.sets, .int .i64 c.ways, .int .i64 c.doms, .int .i64 c.pad, .int .i64 c.quantum, .slice S.a0 c.slots.length S.n0, .slice S.a1 c.owners.length S.n1, .slice S.a2 c.chans.length S.n2, .slice S.a3 c.tasks.length S.n3] 63)) ((hb_w5.block _ byS).trans byH) (fun c_w5 => ?_); obtain ⟨cc_w5, fc_w5, zc_w5⟩ := blk c_w5; refine have_then (P := w5.heap[w.heap.size + 1]? = some (.cells #[.slice T.a0 d.jobs.length T.n0, .slice T.a1 d.released.length T.n1, .int .i64 d.next, .slice T.a2 d.ins.length T.n2, .slice T.a3 d.taken.length T.n3, .slice T.a4 d.outs.length T.n4, .slice T.a5 d.events.length T.n5] 90)) ((hb_w5.block _ byS).trans byH) (fun d_w5 => ?_); obtain ⟨cd_w5, fd_w5, zd_w5⟩ := blk d_w5; refine have_then (P := w5.heap[w2.heap.size]? = some (.cells #[.slice T2.a0 X.jobs.length T2.n0, .slice T2.a1 X.released.length T2.n1, .int .i64 X.next, .slice T2.a2 X.ins.length T2.n2, .slice T2.a3 X.taken.length T2.n3, .slice T2.a4 X.outs.length T2.n4, .slice T2.a5 X.events.length T2.n5] 90)) ((hb_w5.block _ byS).trans byH) (fun x_w5 => ?_); obtain ⟨cx_w5, fx_w5, zx_w5⟩ := blk x_w5; refine have_then (P := w5.heap[w3.heap.size]? = some (.cells #[.slice T3.a0 X.jobs.length T3.n0, .slice T3.a1 X.released.length T3.n1, .int .i64 X.next, .slice T3.a2 X.ins.length T3.n2, .slice T3.a3 X.taken.length T3.n3, .slice T3.a4 X.outs.length T3.n4, .slice T3.a5 X.events.length T3.n5] 90)) ((hb_w5.block _ byS).trans byH) (fun y_w5 => ?_); obtain ⟨cy_w5, fy_w5, zy_w5⟩ := blk y_w5; refine have_then (P := Below w.heap.size w w5) byB (fun h_w5 => ?_); have s_w5 := Below.size h_w5; have t_w5 := Below.size hb_w5; (try simp at t_w5); revert hb_w5; intro hb_w5; clear c_w4 cc_w4 fc_w4 d_w4 cd_w4 fd_w4 x_w4 cx_w4 fx_w4 y_w4 cy_w4 fy_w4)
  go_wp2_with fail
  go_loopw [14] (fun iv wr => ∃ i : Nat, iv = .int .i64 i ∧ Below w5.heap.size w5 wr) (fun _ _ => 0)
  case atStart => exact ⟨0, rfl, Below.refl _ _⟩
  case round =>
    obtain ⟨i, rfl, hbr⟩ := hrel
    have x_wr := (hbr.block _ zx_w5).trans x_w5
    obtain ⟨cx_wr, fx_wr, zx_wr⟩ := blk x_wr
    have hbw : Below w.heap.size w wr := h_w5.trans (hbr.mono s_w5)
    have g4 : ¬ i < X.jobs.length := by rw [jl.out]; omega
    have g5 : ¬ (i : Int) < X.jobs.length := by omega
    go_wp2_with fail
    go_ret
    exact ⟨rfl, hbw⟩

theorem lawReadySteady_q (c : TCfg) (S : TCfgS) (dom : Int) (d : TDom) (T : TDomS) (now : Int) (hz : DomSz d) (hev : d.events.length + 80 ≤ 4398046511104) (B : Nat) (w : World) (hB : B ≤ w.heap.size) (hs : TCfg.At (Low B) w c S) (hd : TDom.At (Low B) w d T) (e : relErr c dom d now = 0) (hb : 0 ≤ bestOf c (releaseOf c dom now d).jobs) :
    Calls Try.prog 12 #[.agg #[.int .i64 c.sets, .int .i64 c.ways, .int .i64 c.doms, .int .i64 c.pad, .int .i64 c.quantum, .slice S.a0 c.slots.length S.n0, .slice S.a1 c.owners.length S.n1, .slice S.a2 c.chans.length S.n2, .slice S.a3 c.tasks.length S.n3], .int .i64 dom, .agg #[.slice T.a0 d.jobs.length T.n0, .slice T.a1 d.released.length T.n1, .int .i64 d.next, .slice T.a2 d.ins.length T.n2, .slice T.a3 d.taken.length T.n3, .slice T.a4 d.outs.length T.n4, .slice T.a5 d.events.length T.n5], .int .i64 now] w fun en w' => en = .returned (.bool true) ∧ Below w.heap.size w w' := by
  obtain ⟨e1, hn⟩ : checkBoth c dom d = 0 ∧ (0 ≤ now ∧ now ≤ 100000) := by
    unfold relErr at e
    split at e
    · rename_i h; exact absurd e h
    · rename_i h
      refine ⟨Decidable.not_not.1 h, ?_⟩
      split at e
      · rename_i h2; exact inB_true.1 h2
      · exact absurd e (by decide)
  obtain ⟨ok, hk⟩ := checkBoth_ok e1
  have hkx := release_ok (dom := dom) ok hn.2 hk
  have e2 : checkBoth c dom (releaseOf c dom now d) = 0 := by unfold checkBoth; rw [thenE_zero]; exact ⟨by unfold checkBoth at e1; exact (thenE_zero.1 e1).1, domErr_zero.2 hkx⟩
  have y1 : relErr c dom (releaseOf c dom now d) now = 0 := by unfold relErr; rw [if_neg (by simp [e2]), if_pos (inB_true.2 hn)]
  have y2 : relOf c dom (releaseOf c dom now d) now = releaseOf c dom now d := by unfold relOf; rw [if_pos y1]; exact release_twice hk.lrel
  have y3 : relOf c dom d now = releaseOf c dom now d := by unfold relOf; rw [if_pos e]
  have hev2 := release_events (c := c) (dom := dom) (now := now) hk.njobs
  have hzx := release_sz hz hk hkx ok.ntasks hev
  have H0 := Lib.hid lawReadyBegun
  have HL := Lib.hid (fun W (h : Below w.heap.size w W) => readyRelease c S dom d T now hz (by omega) B W (Nat.le_trans hB h.size) (hs.next hB h) (hd.next hB h))
  rw [y3, e] at HL
  generalize releaseOf c dom now d = X at *
  have HL2 := Lib.hid (fun W T (h : Below w.heap.size w W) (hx : TDom.At (Low W.heap.size) W X T) => readyRelease c S dom X T now hzx (by omega) W.heap.size W (Nat.le_refl _) ((hs.next hB h).up (Nat.le_trans hB h.size)) hx)
  rw [y2, y1] at HL2
  have HP := Lib.hid (fun W T (h : Below w.heap.size w W) (hx : TDom.At (Low W.heap.size) W X T) => readyPick c S dom X T hzx W.heap.size W (Nat.le_refl _) ((hs.next hB h).up (Nat.le_trans hB h.size)) hx)
  simp only [e2, if_true] at HP
  have HS := Lib.hid (fun W S1 T1 (h1 : TDom.At (Low W.heap.size) W X S1) (h2 : TDom.At (Low W.heap.size) W X T1) => refSameDomain X S1 T1 W.heap.size W (Nat.le_refl _) h1 h2)
  have hn20 := hkx.njobs
  have h6 := ok.ntasks
  have HJ := Lib.hid (fun i (h : i < X.jobs.length) => (⟨hkx.job i h, ok.job (hkx.job i h)⟩ : _ ∧ _))
  obtain ⟨bl1, bl2, bl3⟩ := best_late (c := c) (js := X.jobs)
  obtain ⟨ib, hib⟩ := Int.eq_ofNat_of_zero_le hb
  rw [hib] at bl1 bl2 bl3 HP
  have bl2 : ib < X.jobs.length := by omega
  have bl3 := bl3 (by omega)
  rw [Int.toNat_natCast] at bl3
  have HJB := Lib.hid (HJ.out ib bl2)
  have g2 : ((X.jobs.length : Int) == 0) = false := beq_eq_false_iff_ne.2 (by omega)
  have g3 : decide (X.jobs.length ≤ ib) = false := by simp; omega
  clear y1 y2 y3 e e1 e2 hz hzx hev hev2 hd hk hkx ok bl1 hb hib
  go_enter Try.func12, Try.ntmps12
  go_wp2_with fail
  (go_at_call 58; refine (H0.out _).mono ?_; rintro e w1 ⟨rfl, hb_w1⟩; refine have_then (P := w1.heap[w.heap.size]? = some (.cells #[.int .i64 c.sets, .int .i64 c.ways, .int .i64 c.doms, .int .i64 c.pad, .int .i64 c.quantum, .slice S.a0 c.slots.length S.n0, .slice S.a1 c.owners.length S.n1, .slice S.a2 c.chans.length S.n2, .slice S.a3 c.tasks.length S.n3] 63)) ((hb_w1.block _ byS).trans byH) (fun c_w1 => ?_); obtain ⟨cc_w1, fc_w1, zc_w1⟩ := blk c_w1; refine have_then (P := w1.heap[w.heap.size + 1]? = some (.cells #[.slice T.a0 d.jobs.length T.n0, .slice T.a1 d.released.length T.n1, .int .i64 d.next, .slice T.a2 d.ins.length T.n2, .slice T.a3 d.taken.length T.n3, .slice T.a4 d.outs.length T.n4, .slice T.a5 d.events.length T.n5] 90)) ((hb_w1.block _ byS).trans byH) (fun d_w1 => ?_); obtain ⟨cd_w1, fd_w1, zd_w1⟩ := blk d_w1; refine have_then (P := Below w.heap.size w w1) byB (fun h_w1 => ?_); have s_w1 := Below.size h_w1; have t_w1 := Below.size hb_w1; (try simp at t_w1); revert hb_w1; intro hb_w1)
  go_wp2_with fail
  (go_at_call 49; refine (HL.out _ byB).mono ?_; rintro e w2 ⟨T2, G2, rfl, hO2, hG2, hb_w2⟩; refine have_then (P := w2.heap[w.heap.size]? = some (.cells #[.int .i64 c.sets, .int .i64 c.ways, .int .i64 c.doms, .int .i64 c.pad, .int .i64 c.quantum, .slice S.a0 c.slots.length S.n0, .slice S.a1 c.owners.length S.n1, .slice S.a2 c.chans.length S.n2, .slice S.a3 c.tasks.length S.n3] 63)) ((hb_w2.block _ byS).trans byH) (fun c_w2 => ?_); obtain ⟨cc_w2, fc_w2, zc_w2⟩ := blk c_w2; refine have_then (P := w2.heap[w.heap.size + 1]? = some (.cells #[.slice T.a0 d.jobs.length T.n0, .slice T.a1 d.released.length T.n1, .int .i64 d.next, .slice T.a2 d.ins.length T.n2, .slice T.a3 d.taken.length T.n3, .slice T.a4 d.outs.length T.n4, .slice T.a5 d.events.length T.n5] 90)) ((hb_w2.block _ byS).trans byH) (fun d_w2 => ?_); obtain ⟨cd_w2, fd_w2, zd_w2⟩ := blk d_w2; refine have_then (P := Below w.heap.size w w2) byB (fun h_w2 => ?_); have s_w2 := Below.size h_w2; have t_w2 := Below.size hb_w2; (try simp at t_w2); revert hb_w2; intro hb_w2; clear c_w1 cc_w1 fc_w1 d_w1 cd_w1 fd_w1)
  have hx2 := hO2.read fun i b hb => hO2.lt i b hb
  clear hO2 hG2
  go_wp2_with fail
  (go_at_call 49; refine (HL2.out _ T2 byB ((hx2.next (Nat.le_refl _) byB).up byS)).mono ?_; rintro e w3 ⟨T3, G3, rfl, hO3, hG3, hb_w3⟩; refine have_then (P := w3.heap[w.heap.size]? = some (.cells #[.int .i64 c.sets, .int .i64 c.ways, .int .i64 c.doms, .int .i64 c.pad, .int .i64 c.quantum, .slice S.a0 c.slots.length S.n0, .slice S.a1 c.owners.length S.n1, .slice S.a2 c.chans.length S.n2, .slice S.a3 c.tasks.length S.n3] 63)) ((hb_w3.block _ byS).trans byH) (fun c_w3 => ?_); obtain ⟨cc_w3, fc_w3, zc_w3⟩ := blk c_w3; refine have_then (P := w3.heap[w.heap.size + 1]? = some (.cells #[.slice T.a0 d.jobs.length T.n0, .slice T.a1 d.released.length T.n1, .int .i64 d.next, .slice T.a2 d.ins.length T.n2, .slice T.a3 d.taken.length T.n3, .slice T.a4 d.outs.length T.n4, .slice T.a5 d.events.length T.n5] 90)) ((hb_w3.block _ byS).trans byH) (fun d_w3 => ?_); obtain ⟨cd_w3, fd_w3, zd_w3⟩ := blk d_w3; refine have_then (P := w3.heap[w2.heap.size]? = some (.cells #[.slice T2.a0 X.jobs.length T2.n0, .slice T2.a1 X.released.length T2.n1, .int .i64 X.next, .slice T2.a2 X.ins.length T2.n2, .slice T2.a3 X.taken.length T2.n3, .slice T2.a4 X.outs.length T2.n4, .slice T2.a5 X.events.length T2.n5] 90)) ((hb_w3.block _ byS).trans byH) (fun x_w3 => ?_); obtain ⟨cx_w3, fx_w3, zx_w3⟩ := blk x_w3; refine have_then (P := Below w.heap.size w w3) byB (fun h_w3 => ?_); have s_w3 := Below.size h_w3; have t_w3 := Below.size hb_w3; (try simp at t_w3); revert hb_w3; intro hb_w3; clear c_w2 cc_w2 fc_w2 d_w2 cd_w2 fd_w2)
  have hy3 := hO3.read fun i b hb => hO3.lt i b hb
  clear hO3 hG3
  go_wp2_with fail
  (go_at_call 50; refine (HP.out _ T2 byB ((hx2.next (Nat.le_refl _) byB).up byS)).mono ?_; rintro e w4 ⟨rfl, hb_w4⟩; refine have_then (P := w4.heap[w.heap.size]? = some (.cells #[.int .i64 c.sets, .int .i64 c.ways, .int .i64 c.doms, .int .i64 c.pad, .int .i64 c.quantum, .slice S.a0 c.slots.length S.n0, .slice S.a1 c.owners.length S.n1, .slice S.a2 c.chans.length S.n2, .slice S.a3 c.tasks.length S.n3] 63)) ((hb_w4.block _ byS).trans byH) (fun c_w4 => ?_); obtain ⟨cc_w4, fc_w4, zc_w4⟩ := blk c_w4; refine have_then (P := w4.heap[w.heap.size + 1]? = some (.cells #[.slice T.a0 d.jobs.length T.n0, .slice T.a1 d.released.length T.n1, .int .i64 d.next, .slice T.a2 d.ins.length T.n2, .slice T.a3 d.taken.length T.n3, .slice T.a4 d.outs.length T.n4, .slice T.a5 d.events.length T.n5] 90)) ((hb_w4.block _ byS).trans byH) (fun d_w4 => ?_); obtain ⟨cd_w4, fd_w4, zd_w4⟩ := blk d_w4; refine have_then (P := w4.heap[w2.heap.size]? = some (.cells #[.slice T2.a0 X.jobs.length T2.n0, .slice T2.a1 X.released.length T2.n1, .int .i64 X.next, .slice T2.a2 X.ins.length T2.n2, .slice T2.a3 X.taken.length T2.n3, .slice T2.a4 X.outs.length T2.n4, .slice T2.a5 X.events.length T2.n5] 90)) ((hb_w4.block _ byS).trans byH) (fun x_w4 => ?_); obtain ⟨cx_w4, fx_w4, zx_w4⟩ := blk x_w4; refine have_then (P := w4.heap[w3.heap.size]? = some (.cells #[.slice T3.a0 X.jobs.length T3.n0, .slice T3.a1 X.released.length T3.n1, .int .i64 X.next, .slice T3.a2 X.ins.length T3.n2, .slice T3.a3 X.taken.length T3.n3, .slice T3.a4 X.outs.length T3.n4, .slice T3.a5 X.events.length T3.n5] 90)) ((hb_w4.block _ byS).trans byH) (fun y_w4 => ?_); obtain ⟨cy_w4, fy_w4, zy_w4⟩ := blk y_w4; refine have_then (P := Below w.heap.size w w4) byB (fun h_w4 => ?_); have s_w4 := Below.size h_w4; have t_w4 := Below.size hb_w4; (try simp at t_w4); revert hb_w4; intro hb_w4; clear c_w3 cc_w3 fc_w3 d_w3 cd_w3 fd_w3 x_w3 cx_w3 fx_w3)
  go_wp2_with fail
  (go_at_call 61; refine (HS.out _ T2 T3 ((hx2.next (Nat.le_refl _) byB).up byS) ((hy3.next (Nat.le_refl _) byB).up byS)).mono ?_; rintro e w5 ⟨rfl, hb_w5⟩; refine have_then (P := w5.heap[w.heap.size]? = some (.cells #[.int .i64 c.sets, .int .i64 c.ways, .int .i64 c.doms, .int .i64 c.pad, .int .i64 c.quantum, .slice S.a0 c.slots.length S.n0, .slice S.a1 c.owners.length S.n1, .slice S.a2 c.chans.length S.n2, .slice S.a3 c.tasks.length S.n3] 63)) ((hb_w5.block _ byS).trans byH) (fun c_w5 => ?_); obtain ⟨cc_w5, fc_w5, zc_w5⟩ := blk c_w5; refine have_then (P := w5.heap[w.heap.size + 1]? = some (.cells #[.slice T.a0 d.jobs.length T.n0, .slice T.a1 d.released.length T.n1, .int .i64 d.next, .slice T.a2 d.ins.length T.n2, .slice T.a3 d.taken.length T.n3, .slice T.a4 d.outs.length T.n4, .slice T.a5 d.events.length T.n5] 90)) ((hb_w5.block _ byS).trans byH) (fun d_w5 => ?_); obtain ⟨cd_w5, fd_w5, zd_w5⟩ := blk d_w5; refine have_then (P := w5.heap[w2.heap.size]? = some (.cells #[.slice T2.a0 X.jobs.length T2.n0, .slice T2.a1 X.released.length T2.n1, .int .i64 X.next, .slice T2.a2 X.ins.length T2.n2, .slice T2.a3 X.taken.length T2.n3, .slice T2.a4 X.outs.length T2.n4, .slice T2.a5 X.events.length T2.n5] 90)) ((hb_w5.block _ byS).trans byH) (fun x_w5 => ?_); obtain ⟨cx_w5, fx_w5, zx_w5⟩ := blk x_w5; refine have_then (P := w5.heap[w3.heap.size]? = some (.cells #[.slice T3.a0 X.jobs.length T3.n0, .slice T3.a1 X.released.length T3.n1, .int .i64 X.next, .slice T3.a2 X.ins.length T3.n2, .slice T3.a3 X.taken.length T3.n3, .slice T3.a4 X.outs.length T3.n4, .slice T3.a5 X.events.length T3.n5] 90)) ((hb_w5.block _ byS).trans byH) (fun y_w5 => ?_); obtain ⟨cy_w5, fy_w5, zy_w5⟩ := blk y_w5; refine have_then (P := Below w.heap.size w w5) byB (fun h_w5 => ?_); have s_w5 := Below.size h_w5; have t_w5 := Below.size hb_w5; (try simp at t_w5); revert hb_w5; intro hb_w5; clear c_w4 cc_w4 fc_w4 d_w4 cd_w4 fd_w4 x_w4 cx_w4 fx_w4 y_w4 cy_w4 fy_w4)
  go_wp2_with fail
  go_loopw [14] (fun iv wr => ∃ i : Nat, i ≤ X.jobs.length ∧ iv = .int .i64 i ∧ Below w5.heap.size w5 wr) (fun iv _ => X.jobs.length - (intOf iv).toNat)
  case atStart => exact ⟨0, Nat.zero_le _, rfl, Below.refl _ _⟩
  case round =>
    obtain ⟨i, hi, rfl, hbr⟩ := hrel
    have so := hbr.size
    have hb2w : Below w2.heap.size w2 wr := byB
    have c_wr := (hbr.block _ zc_w5).trans c_w5
    have x_wr := (hbr.block _ zx_w5).trans x_w5
    have hbw : Below w.heap.size w wr := h_w5.trans (hbr.mono s_w5)
    by_cases hlt : i < X.jobs.length
    · have hxr := hx2.next (Nat.le_refl _) hb2w
      obtain ⟨b1, o1, e1, I1, k0, k1, k2, k3, k4, k5⟩ := hxr.s0.at_job hlt
      obtain ⟨b2, o2, e2, I2, m0, m1, m2, m3, m4, m5⟩ := hxr.s0.at_job bl2
      obtain ⟨rfl, rfl⟩ : b1 = b2 ∧ o1 = o2 := by
        rw [e1] at e2; injection e2 with e2; injection e2 with h1 h2; exact ⟨h1, h2⟩
      clear e2
      have hJ1 := HJ.out i hlt
      have hJ2 := HJB.out
      obtain ⟨t1, ht1⟩ := Int.eq_ofNat_of_zero_le hJ1.1.task.1
      obtain ⟨t2, ht2⟩ := Int.eq_ofNat_of_zero_le hJ2.1.task.1
      have tl1 : t1 < c.tasks.length := by have := hJ1.1.task.2; omega
      have tl2 : t2 < c.tasks.length := by have := hJ2.1.task.2; omega
      have hT1 : taskOf c (nth X.jobs i).task = nth c.tasks t1 := by rw [ht1]; simp [taskOf]
      have hT2 : taskOf c (nth X.jobs ib).task = nth c.tasks t2 := by rw [ht2]; simp [taskOf]
      have hle := bl3 i hlt
      unfold lateOf at hle
      have d1 := hJ1.2
      have d2 := hJ2.2
      have r1 := hJ1.1.released
      have r2 := hJ2.1.released
      rw [hT1] at d1 hle
      rw [hT2] at d2 hle
      obtain ⟨b3, o3, e3, I3, n0, n1, n2, n3⟩ := (hs.next hB hbw).s3.at_task tl1
      obtain ⟨b4, o4, e4, I4, p0, p1, p2, p3⟩ := (hs.next hB hbw).s3.at_task tl2
      obtain ⟨rfl, rfl⟩ : b3 = b4 ∧ o3 = o4 := by
        rw [e3] at e4; injection e4 with e4; injection e4 with h1 h2; exact ⟨h1, h2⟩
      clear e4 hJ1 hJ2 hT1 hT2
      have hw1 : IntKind.i64.wrap ((nth X.jobs i).released + (nth c.tasks t1).dead) = (nth X.jobs i).released + (nth c.tasks t1).dead := IntWalk.i64_in _ (by omega)
      have hw2 : IntKind.i64.wrap ((nth X.jobs ib).released + (nth c.tasks t2).dead) = (nth X.jobs ib).released + (nth c.tasks t2).dead := IntWalk.i64_in _ (by omega)
      have hdc : decide ((nth X.jobs i).released + (nth c.tasks t1).dead < (nth X.jobs ib).released + (nth c.tasks t2).dead) = false := by simp only [decide_eq_false_iff_not]; omega
      rw [ht1] at k0
      rw [ht2] at m0
      rw [e1] at x_wr
      rw [e3] at c_wr
      replace hxr := Lib.hid hxr
      clear e1 e3 ht1 ht2
      obtain ⟨cx_wr, fx_wr, zx_wr⟩ := blk x_wr
      obtain ⟨cc_wr, fc_wr, zc_wr⟩ := blk c_wr
      have i0 : (0 : Int) ≤ i := by omega
      have i1 : (i : Int) < X.jobs.length := by omega
      have j0 : (0 : Int) ≤ ib := by omega
      have j1 : (ib : Int) < X.jobs.length := by omega
      have s0 : (0 : Int) ≤ t1 := by omega
      have s1 : (t1 : Int) < c.tasks.length := by omega
      have u0 : (0 : Int) ≤ t2 := by omega
      have u1 : (t2 : Int) < c.tasks.length := by omega
      generalize nth c.tasks t1 = K1 at *
      generalize nth c.tasks t2 = K2 at *
      generalize nth X.jobs i = J1 at *
      generalize nth X.jobs ib = J2 at *
      clear c_w5 cc_w5 x_w5 cx_w5 d1 d2 r1 r2 hle bl3 HJ HJB
      go_wp2_with fail
      go_quiet (fail)
      go_wp2_with fail
      go_roundw
      case rel => exact ⟨i + 1, by omega, by go_num, below_drewN hbr _⟩
      case measure => simp [intOf]; omega
    · obtain rfl : i = X.jobs.length := by omega
      obtain ⟨cx_wr, fx_wr, zx_wr⟩ := blk x_wr
      go_wp2_with fail
      go_ret
      exact ⟨rfl, hbw⟩

theorem lawReadySteady (c : TCfg) (S : TCfgS) (dom : Int) (d : TDom) (T : TDomS) (now : Int) (hz : DomSz d) (hev : d.events.length + 80 ≤ 4398046511104) (B : Nat) (w : World) (hB : B ≤ w.heap.size) (hs : TCfg.At (Low B) w c S) (hd : TDom.At (Low B) w d T) :
    Calls Try.prog 12 #[.agg #[.int .i64 c.sets, .int .i64 c.ways, .int .i64 c.doms, .int .i64 c.pad, .int .i64 c.quantum, .slice S.a0 c.slots.length S.n0, .slice S.a1 c.owners.length S.n1, .slice S.a2 c.chans.length S.n2, .slice S.a3 c.tasks.length S.n3], .int .i64 dom, .agg #[.slice T.a0 d.jobs.length T.n0, .slice T.a1 d.released.length T.n1, .int .i64 d.next, .slice T.a2 d.ins.length T.n2, .slice T.a3 d.taken.length T.n3, .slice T.a4 d.outs.length T.n4, .slice T.a5 d.events.length T.n5], .int .i64 now] w fun en w' => en = .returned (.bool true) ∧ Below w.heap.size w w' := by
  by_cases e : relErr c dom d now = 0
  · by_cases hb : bestOf c (releaseOf c dom now d).jobs < 0
    · exact lawReadySteady_p c S dom d T now hz hev B w hB hs hd e hb
    · exact lawReadySteady_q c S dom d T now hz hev B w hB hs hd e (by omega)
  · exact lawReadySteady_n c S dom d T now hz hev B w hB hs hd e

end Go.Proofs.Ytinlmkhlgclbfaa
