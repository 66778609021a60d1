/- LawRdB -/
import Derived.Test.YtinlmkhlgclbfaaRtA38
import Derived.Test.YtinlmkhlgclbfaaRtA41
import Derived.Test.YtinlmkhlgclbfaaRtA42
import Derived.Test.YtinlmkhlgclbfaaRtA45
import Derived.Test.YtinlmkhlgclbfaaRtA46
namespace Go.Proofs.Ytinlmkhlgclbfaa
open Go.RowKit
set_option maxRecDepth 100000
set_option maxHeartbeats 8000000

theorem lawReadyTells_a (c : TCfg) (S : TCfgS) (dom : Int) (d : TDom) (T : TDomS) (now : Int) (hz : DomSz d) (hev : d.events.length + 40 ≤ 4398046511104) (B : Nat) (w : World) (hB : B ≤ w.heap.size) (hs : TCfg.At (Low B) w c S) (hd : TDom.At (Low B) w d T) (e1 : checkConfig c ≠ 0) :
    Calls Try.prog 11 #[.agg #[.int .i64 c.sets, .int .i64 c.ways, .int .i64 c.doms, .int .i64 c.pad, .int .i64 c.quantum, .slice S.a0 c.slots.length S.n0, .slice S.a1 c.owners.length S.n1, .slice S.a2 c.chans.length S.n2, .slice S.a3 c.tasks.length S.n3], .int .i64 dom, .agg #[.slice T.a0 d.jobs.length T.n0, .slice T.a1 d.released.length T.n1, .int .i64 d.next, .slice T.a2 d.ins.length T.n2, .slice T.a3 d.taken.length T.n3, .slice T.a4 d.outs.length T.n4, .slice T.a5 d.events.length T.n5], .int .i64 now] w fun en w' => en = .returned (.bool true) ∧ Below w.heap.size w w' := by
  have HN := Lib.hid (fun W (h : Below w.heap.size w W) => readyNew c S dom B W (Nat.le_trans hB h.size) (hs.next hB h))
  have HL := Lib.hid (fun W (h : Below w.heap.size w W) => readyRelease c S dom d T now hz hev B W (Nat.le_trans hB h.size) (hs.next hB h) (hd.next hB h))
  have H3 := Lib.hid (fun W (h : Below w.heap.size w W) => readyPick c S dom d T hz B W (Nat.le_trans hB h.size) (hs.next hB h) (hd.next hB h))
  have H4 := Lib.hid (fun W (h : Below w.heap.size w W) => readyDue c S dom d T hz B W (Nat.le_trans hB h.size) (hs.next hB h) (hd.next hB h))
  have H5 := Lib.hid (fun W (h : Below w.heap.size w W) => readyCheck c S dom d T B W (Nat.le_trans hB h.size) (hs.next hB h) (hd.next hB h))
  have HA := Lib.hid (fun W (h : Below w.heap.size w W) => refCheckConfig c S B W (Nat.le_trans hB h.size) (hs.next hB h))
  have HB2 := Lib.hid (fun W (h : Below w.heap.size w W) => refCheckBoth c S dom d T B W (Nat.le_trans hB h.size) (hs.next hB h) (hd.next hB h))
  have H0 := Lib.hid lawReadyBegun
  have HDN := Lib.hid (fun E W T (h : TDom.At (Low W.heap.size) W noDom T) => lawDomainIs noDom T noDomS E (fun _ => rfl) W.heap.size W (Nat.le_refl _) h ((noDom_own W).read fun _ _ h => h.elim))
  have e2 : checkBoth c dom d = checkConfig c := by unfold checkBoth thenE; rw [if_neg e1]
  have x1 : newErr c dom = checkConfig c := by simp [newErr, e1]
  have x2 : newOf c dom = noDom := by unfold newOf; rw [x1, if_neg e1]
  have y1 : relErr c dom d now = checkConfig c := by simp [relErr, e2, e1]
  have y2 : relOf c dom d now = noDom := by unfold relOf; rw [y1, if_neg e1]
  rw [x1, x2] at HN
  rw [y1, y2] at HL
  simp only [e2, if_neg e1] at H3 H4 H5 HB2
  have b1 : (checkConfig c == 0) = false := by simp [e1]
  have b2 : (checkConfig c != 0) = true := by simp [e1]
  have b3 : (checkConfig c == checkConfig c) = true := by simp
  clear x1 x2 y1 y2 e1 e2 hz hev hs hd
  generalize checkConfig c = CE at *
  go_enter Try.func11, Try.ntmps11
  go_wp2_with fail
  (go_at_call 48; refine (HN.out _ byB).mono ?_; rintro e w1 ⟨T1, G1, rfl, hO1, hG1, hb_w1⟩; refine have_then (P := w1.heap[w.heap.size]? = some (.cells #[.int .i64 c.sets, .int .i64 c.ways, .int .i64 c.doms, .int .i64 c.pad, .int .i64 c.quantum, .slice S.a0 c.slots.length S.n0, .slice S.a1 c.owners.length S.n1, .slice S.a2 c.chans.length S.n2, .slice S.a3 c.tasks.length S.n3] 63)) ((hb_w1.block _ byS).trans byH) (fun c_w1 => ?_); obtain ⟨cc_w1, fc_w1, zc_w1⟩ := blk c_w1; refine have_then (P := w1.heap[w.heap.size + 1]? = some (.cells #[.slice T.a0 d.jobs.length T.n0, .slice T.a1 d.released.length T.n1, .int .i64 d.next, .slice T.a2 d.ins.length T.n2, .slice T.a3 d.taken.length T.n3, .slice T.a4 d.outs.length T.n4, .slice T.a5 d.events.length T.n5] 90)) ((hb_w1.block _ byS).trans byH) (fun d_w1 => ?_); obtain ⟨cd_w1, fd_w1, zd_w1⟩ := blk d_w1; refine have_then (P := Below w.heap.size w w1) byB (fun h_w1 => ?_); have s_w1 := Below.size h_w1; have t_w1 := Below.size hb_w1; (try simp at t_w1); revert hb_w1; intro hb_w1)
  have hx1 := hO1.read fun i b hb => hO1.lt i b hb
  clear hO1 hG1
  go_wp2_with fail
  (go_at_call 49; refine (HL.out _ byB).mono ?_; rintro e w2 ⟨T2, G2, rfl, hO2, hG2, hb_w2⟩; refine have_then (P := w2.heap[w.heap.size]? = some (.cells #[.int .i64 c.sets, .int .i64 c.ways, .int .i64 c.doms, .int .i64 c.pad, .int .i64 c.quantum, .slice S.a0 c.slots.length S.n0, .slice S.a1 c.owners.length S.n1, .slice S.a2 c.chans.length S.n2, .slice S.a3 c.tasks.length S.n3] 63)) ((hb_w2.block _ byS).trans byH) (fun c_w2 => ?_); obtain ⟨cc_w2, fc_w2, zc_w2⟩ := blk c_w2; refine have_then (P := w2.heap[w.heap.size + 1]? = some (.cells #[.slice T.a0 d.jobs.length T.n0, .slice T.a1 d.released.length T.n1, .int .i64 d.next, .slice T.a2 d.ins.length T.n2, .slice T.a3 d.taken.length T.n3, .slice T.a4 d.outs.length T.n4, .slice T.a5 d.events.length T.n5] 90)) ((hb_w2.block _ byS).trans byH) (fun d_w2 => ?_); obtain ⟨cd_w2, fd_w2, zd_w2⟩ := blk d_w2; refine have_then (P := w2.heap[w1.heap.size]? = some (.cells #[.slice T1.a0 noDom.jobs.length T1.n0, .slice T1.a1 noDom.released.length T1.n1, .int .i64 noDom.next, .slice T1.a2 noDom.ins.length T1.n2, .slice T1.a3 noDom.taken.length T1.n3, .slice T1.a4 noDom.outs.length T1.n4, .slice T1.a5 noDom.events.length T1.n5] 90)) ((hb_w2.block _ byS).trans byH) (fun x_w2 => ?_); obtain ⟨cx_w2, fx_w2, zx_w2⟩ := blk x_w2; refine have_then (P := Below w.heap.size w w2) byB (fun h_w2 => ?_); have s_w2 := Below.size h_w2; have t_w2 := Below.size hb_w2; (try simp at t_w2); revert hb_w2; intro hb_w2; clear c_w1 cc_w1 fc_w1 d_w1 cd_w1 fd_w1)
  have hy2 := hO2.read fun i b hb => hO2.lt i b hb
  clear hO2 hG2
  go_wp2_with fail
  (go_at_call 50; refine (H3.out _ byB).mono ?_; rintro e w3 ⟨rfl, hb_w3⟩; refine have_then (P := w3.heap[w.heap.size]? = some (.cells #[.int .i64 c.sets, .int .i64 c.ways, .int .i64 c.doms, .int .i64 c.pad, .int .i64 c.quantum, .slice S.a0 c.slots.length S.n0, .slice S.a1 c.owners.length S.n1, .slice S.a2 c.chans.length S.n2, .slice S.a3 c.tasks.length S.n3] 63)) ((hb_w3.block _ byS).trans byH) (fun c_w3 => ?_); obtain ⟨cc_w3, fc_w3, zc_w3⟩ := blk c_w3; refine have_then (P := w3.heap[w.heap.size + 1]? = some (.cells #[.slice T.a0 d.jobs.length T.n0, .slice T.a1 d.released.length T.n1, .int .i64 d.next, .slice T.a2 d.ins.length T.n2, .slice T.a3 d.taken.length T.n3, .slice T.a4 d.outs.length T.n4, .slice T.a5 d.events.length T.n5] 90)) ((hb_w3.block _ byS).trans byH) (fun d_w3 => ?_); obtain ⟨cd_w3, fd_w3, zd_w3⟩ := blk d_w3; refine have_then (P := w3.heap[w1.heap.size]? = some (.cells #[.slice T1.a0 noDom.jobs.length T1.n0, .slice T1.a1 noDom.released.length T1.n1, .int .i64 noDom.next, .slice T1.a2 noDom.ins.length T1.n2, .slice T1.a3 noDom.taken.length T1.n3, .slice T1.a4 noDom.outs.length T1.n4, .slice T1.a5 noDom.events.length T1.n5] 90)) ((hb_w3.block _ byS).trans byH) (fun x_w3 => ?_); obtain ⟨cx_w3, fx_w3, zx_w3⟩ := blk x_w3; refine have_then (P := w3.heap[w2.heap.size]? = some (.cells #[.slice T2.a0 noDom.jobs.length T2.n0, .slice T2.a1 noDom.released.length T2.n1, .int .i64 noDom.next, .slice T2.a2 noDom.ins.length T2.n2, .slice T2.a3 noDom.taken.length T2.n3, .slice T2.a4 noDom.outs.length T2.n4, .slice T2.a5 noDom.events.length T2.n5] 90)) ((hb_w3.block _ byS).trans byH) (fun y_w3 => ?_); obtain ⟨cy_w3, fy_w3, zy_w3⟩ := blk y_w3; refine have_then (P := Below w.heap.size w w3) byB (fun h_w3 => ?_); have s_w3 := Below.size h_w3; have t_w3 := Below.size hb_w3; (try simp at t_w3); revert hb_w3; intro hb_w3; clear c_w2 cc_w2 fc_w2 d_w2 cd_w2 fd_w2 x_w2 cx_w2 fx_w2)
  go_wp2_with fail
  (go_at_call 51; refine (H4.out _ byB).mono ?_; rintro e w4 ⟨rfl, hb_w4⟩; refine have_then (P := w4.heap[w.heap.size]? = some (.cells #[.int .i64 c.sets, .int .i64 c.ways, .int .i64 c.doms, .int .i64 c.pad, .int .i64 c.quantum, .slice S.a0 c.slots.length S.n0, .slice S.a1 c.owners.length S.n1, .slice S.a2 c.chans.length S.n2, .slice S.a3 c.tasks.length S.n3] 63)) ((hb_w4.block _ byS).trans byH) (fun c_w4 => ?_); obtain ⟨cc_w4, fc_w4, zc_w4⟩ := blk c_w4; refine have_then (P := w4.heap[w.heap.size + 1]? = some (.cells #[.slice T.a0 d.jobs.length T.n0, .slice T.a1 d.released.length T.n1, .int .i64 d.next, .slice T.a2 d.ins.length T.n2, .slice T.a3 d.taken.length T.n3, .slice T.a4 d.outs.length T.n4, .slice T.a5 d.events.length T.n5] 90)) ((hb_w4.block _ byS).trans byH) (fun d_w4 => ?_); obtain ⟨cd_w4, fd_w4, zd_w4⟩ := blk d_w4; refine have_then (P := w4.heap[w1.heap.size]? = some (.cells #[.slice T1.a0 noDom.jobs.length T1.n0, .slice T1.a1 noDom.released.length T1.n1, .int .i64 noDom.next, .slice T1.a2 noDom.ins.length T1.n2, .slice T1.a3 noDom.taken.length T1.n3, .slice T1.a4 noDom.outs.length T1.n4, .slice T1.a5 noDom.events.length T1.n5] 90)) ((hb_w4.block _ byS).trans byH) (fun x_w4 => ?_); obtain ⟨cx_w4, fx_w4, zx_w4⟩ := blk x_w4; refine have_then (P := w4.heap[w2.heap.size]? = some (.cells #[.slice T2.a0 noDom.jobs.length T2.n0, .slice T2.a1 noDom.released.length T2.n1, .int .i64 noDom.next, .slice T2.a2 noDom.ins.length T2.n2, .slice T2.a3 noDom.taken.length T2.n3, .slice T2.a4 noDom.outs.length T2.n4, .slice T2.a5 noDom.events.length T2.n5] 90)) ((hb_w4.block _ byS).trans byH) (fun y_w4 => ?_); obtain ⟨cy_w4, fy_w4, zy_w4⟩ := blk y_w4; refine have_then (P := Below w.heap.size w w4) byB (fun h_w4 => ?_); have s_w4 := Below.size h_w4; have t_w4 := Below.size hb_w4; (try simp at t_w4); revert hb_w4; intro hb_w4; clear c_w3 cc_w3 fc_w3 d_w3 cd_w3 fd_w3 x_w3 cx_w3 fx_w3 y_w3 cy_w3 fy_w3)
  go_wp2_with fail
  refine wp_region_inv [52, 53, 54, 55, 56, 57, 17, 18] (fun l f W => (Below w4.heap.size w4 W ∧ l.size = 8) ∧ Fa l 0 (f 52 = .agg #[.int .i64 c.sets, .int .i64 c.ways, .int .i64 c.doms, .int .i64 c.pad, .int .i64 c.quantum, .slice S.a0 c.slots.length S.n0, .slice S.a1 c.owners.length S.n1, .slice S.a2 c.chans.length S.n2, .slice S.a3 c.tasks.length S.n3]) ∧ Fa l 1 (f 53 = .int .i64 CE) ∧ Fa l 2 (f 54 = .agg #[.int .i64 c.sets, .int .i64 c.ways, .int .i64 c.doms, .int .i64 c.pad, .int .i64 c.quantum, .slice S.a0 c.slots.length S.n0, .slice S.a1 c.owners.length S.n1, .slice S.a2 c.chans.length S.n2, .slice S.a3 c.tasks.length S.n3]) ∧ Fa l 3 (f 55 = .int .i64 dom) ∧ Fa l 4 (f 56 = .agg #[.slice T.a0 d.jobs.length T.n0, .slice T.a1 d.released.length T.n1, .int .i64 d.next, .slice T.a2 d.ins.length T.n2, .slice T.a3 d.taken.length T.n3, .slice T.a4 d.outs.length T.n4, .slice T.a5 d.events.length T.n5]) ∧ Fa l 5 (f 57 = .int .i64 CE) ∧ Fa l 6 (f 17 = .int .i64 CE) ∧ Fa l 7 (f 18 = .int .i64 CE)) (by kernel_rfl) (by decide) (by kernel_rfl) (by intro s hs; simp at hs ⊢; omega) ?_ ?_ ?_
  · intro l hz hl
    exact ⟨⟨(Below.refl _ _).drew, hz⟩, .no (hl 0), .no (hl 1), .no (hl 2), .no (hl 3), .no (hl 4), .no (hl 5), .no (hl 6), .no (hl 7)⟩
  · refine StepsL.cons 1 [] rfl (by kernel_rfl) rfl (by intro d hd; injection hd with hd; subst hd; decide) (fun l f W hR hn hb K Q2 hK => ?_) ?_
    · obtain ⟨hS, h0, h1, h2, h3, h4, h5, h6, h7⟩ := hR
      replace hb := Lib.hid hb
      refine ⟨?_⟩
      simp only [putF, Act.put, List.setIfInBounds_toArray, List.set_cons_zero, List.set_cons_succ] at hK ⊢
      replace hK := Lib.hid hK
      obtain ⟨cX, fX, zX⟩ := blk ((hS.1.block _ (blk c_w4).2.2).trans c_w4)
      go_simp
      refine hK.out.out _ _ ⟨⟨hS.1, by simpa using hS.2⟩, ⟨fun _ => rfl⟩, h1.k, h2.k, h3.k, h4.k, h5.k, h6.k, h7.k⟩
    refine StepsL.cons 2 [0] rfl (by kernel_rfl) rfl (by intro d hd; injection hd with hd; subst hd; decide) (fun l f W hR hn hb K Q2 hK => ?_) ?_
    · obtain ⟨hS, h0, h1, h2, h3, h4, h5, h6, h7⟩ := hR
      have q0 := h0.out (hb 0 (by simp))
      replace hb := Lib.hid hb
      refine ⟨?_⟩
      simp only [putF, Act.put, List.setIfInBounds_toArray, List.set_cons_zero, List.set_cons_succ] at hK ⊢
      (try simp only [q0] at hK)
      replace hK := Lib.hid hK
      have HC := HA.out W (h_w4.trans (hS.1.mono s_w4))
      go_simp
      go_at_call 35
      refine HC.mono ?_
      clear HC
      rintro e w3 ⟨rfl, hb3⟩
      try dsimp only
      try simp only [Act.put, List.setIfInBounds_toArray, List.set_cons_zero, List.set_cons_succ]
      refine hK.out.out _ _ ⟨⟨hS.1.trans (hb3.mono hS.1.size), by simpa using hS.2⟩, h0.k, ⟨fun _ => rfl⟩, h2.k, h3.k, h4.k, h5.k, h6.k, h7.k⟩
    refine StepsL.cons 3 [] rfl (by kernel_rfl) rfl (by intro d hd; injection hd with hd; subst hd; decide) (fun l f W hR hn hb K Q2 hK => ?_) ?_
    · obtain ⟨hS, h0, h1, h2, h3, h4, h5, h6, h7⟩ := hR
      replace hb := Lib.hid hb
      refine ⟨?_⟩
      simp only [putF, Act.put, List.setIfInBounds_toArray, List.set_cons_zero, List.set_cons_succ] at hK ⊢
      replace hK := Lib.hid hK
      obtain ⟨cX, fX, zX⟩ := blk ((hS.1.block _ (blk c_w4).2.2).trans c_w4)
      go_simp
      refine hK.out.out _ _ ⟨⟨hS.1, by simpa using hS.2⟩, h0.k, h1.k, ⟨fun _ => rfl⟩, h3.k, h4.k, h5.k, h6.k, h7.k⟩
    refine StepsL.cons 4 [] rfl (by kernel_rfl) rfl (by intro d hd; injection hd with hd; subst hd; decide) (fun l f W hR hn hb K Q2 hK => ?_) ?_
    · obtain ⟨hS, h0, h1, h2, h3, h4, h5, h6, h7⟩ := hR
      replace hb := Lib.hid hb
      refine ⟨?_⟩
      simp only [putF, Act.put, List.setIfInBounds_toArray, List.set_cons_zero, List.set_cons_succ] at hK ⊢
      replace hK := Lib.hid hK
      go_simp
      refine hK.out.out _ _ ⟨⟨hS.1, by simpa using hS.2⟩, h0.k, h1.k, h2.k, ⟨fun _ => rfl⟩, h4.k, h5.k, h6.k, h7.k⟩
    refine StepsL.cons 5 [] rfl (by kernel_rfl) rfl (by intro d hd; injection hd with hd; subst hd; decide) (fun l f W hR hn hb K Q2 hK => ?_) ?_
    · obtain ⟨hS, h0, h1, h2, h3, h4, h5, h6, h7⟩ := hR
      replace hb := Lib.hid hb
      refine ⟨?_⟩
      simp only [putF, Act.put, List.setIfInBounds_toArray, List.set_cons_zero, List.set_cons_succ] at hK ⊢
      replace hK := Lib.hid hK
      obtain ⟨cX, fX, zX⟩ := blk ((hS.1.block _ (blk d_w4).2.2).trans d_w4)
      go_simp
      refine hK.out.out _ _ ⟨⟨hS.1, by simpa using hS.2⟩, h0.k, h1.k, h2.k, h3.k, ⟨fun _ => rfl⟩, h5.k, h6.k, h7.k⟩
    refine StepsL.cons 6 [2, 3, 4, 1] rfl (by kernel_rfl) rfl (by intro d hd; injection hd with hd; subst hd; decide) (fun l f W hR hn hb K Q2 hK => ?_) ?_
    · obtain ⟨hS, h0, h1, h2, h3, h4, h5, h6, h7⟩ := hR
      have q1 := h1.out (hb 1 (by simp))
      have q2 := h2.out (hb 2 (by simp))
      have q3 := h3.out (hb 3 (by simp))
      have q4 := h4.out (hb 4 (by simp))
      replace hb := Lib.hid hb
      refine ⟨?_⟩
      simp only [putF, Act.put, List.setIfInBounds_toArray, List.set_cons_zero, List.set_cons_succ] at hK ⊢
      (try simp only [q1, q2, q3, q4] at hK)
      replace hK := Lib.hid hK
      have HC := HB2.out W (h_w4.trans (hS.1.mono s_w4))
      go_simp
      go_at_call 52
      refine HC.mono ?_
      clear HC
      rintro e w3 ⟨rfl, hb3⟩
      try dsimp only
      try simp only [Act.put, List.setIfInBounds_toArray, List.set_cons_zero, List.set_cons_succ]
      refine hK.out.out _ _ ⟨⟨hS.1.trans (hb3.mono hS.1.size), by simpa using hS.2⟩, h0.k, h1.k, h2.k, h3.k, h4.k, ⟨fun _ => rfl⟩, h6.k, h7.k⟩
    refine StepsL.cons 7 [1, 5, 0, 1] rfl (by kernel_rfl) rfl (by intro d hd; injection hd with hd; subst hd; decide) (fun l f W hR hn hb K Q2 hK => ?_) ?_
    · obtain ⟨hS, h0, h1, h2, h3, h4, h5, h6, h7⟩ := hR
      have q0 := h0.out (hb 0 (by simp))
      have q1 := h1.out (hb 1 (by simp))
      have q5 := h5.out (hb 5 (by simp))
      replace hb := Lib.hid hb
      refine ⟨?_⟩
      simp only [putF, Act.put, List.setIfInBounds_toArray, List.set_cons_zero, List.set_cons_succ] at hK ⊢
      (try simp only [q0, q1, q5] at hK)
      replace hK := Lib.hid hK
      go_simp
      refine hK.out.out _ _ ⟨⟨hS.1, by simpa using hS.2⟩, h0.k, h1.k, h2.k, h3.k, h4.k, h5.k, ⟨fun _ => rfl⟩, h7.k⟩
    refine StepsL.cons 8 [5, 6, 0, 1, 2, 3, 4, 5, 6] rfl (by kernel_rfl) rfl (by intro d hd; injection hd with hd; subst hd; decide) (fun l f W hR hn hb K Q2 hK => ?_) ?_
    · obtain ⟨hS, h0, h1, h2, h3, h4, h5, h6, h7⟩ := hR
      have q0 := h0.out (hb 0 (by simp))
      have q1 := h1.out (hb 1 (by simp))
      have q2 := h2.out (hb 2 (by simp))
      have q3 := h3.out (hb 3 (by simp))
      have q4 := h4.out (hb 4 (by simp))
      have q5 := h5.out (hb 5 (by simp))
      have q6 := h6.out (hb 6 (by simp))
      replace hb := Lib.hid hb
      refine ⟨?_⟩
      simp only [putF, Act.put, List.setIfInBounds_toArray, List.set_cons_zero, List.set_cons_succ] at hK ⊢
      (try simp only [q0, q1, q2, q3, q4, q5, q6] at hK)
      replace hK := Lib.hid hK
      go_simp
      refine hK.out.out _ _ ⟨⟨hS.1, by simpa using hS.2⟩, h0.k, h1.k, h2.k, h3.k, h4.k, h5.k, h6.k, ⟨fun _ => rfl⟩⟩
    exact StepsL.nil
  · intro l f W hR hall
    obtain ⟨hS, h0, h1, h2, h3, h4, h5, h6, h7⟩ := hR
    have q0 := h0.out (hall 0 (by decide))
    have q1 := h1.out (hall 1 (by decide))
    have q2 := h2.out (hall 2 (by decide))
    have q3 := h3.out (hall 3 (by decide))
    have q4 := h4.out (hall 4 (by decide))
    have q5 := h5.out (hall 5 (by decide))
    have q6 := h6.out (hall 6 (by decide))
    have q7 := h7.out (hall 7 (by decide))
    clear h0 h1 h2 h3 h4 h5 h6 h7
    obtain ⟨w5, rfl⟩ : ∃ X, X = W := ⟨_, rfl⟩
    have hb_w5 : Below w4.heap.size w4 w5 := hS.1
    have h_w5 : Below w.heap.size w w5 := h_w4.trans (hb_w5.mono s_w4)
    revert hb_w5; intro hb_w5
    have s_w5 := Below.size h_w5
    have t_w5 := Below.size hb_w5
    have c_w5 := (hb_w5.block _ (blk c_w4).2.2).trans c_w4
    have d_w5 := (hb_w5.block _ (blk d_w4).2.2).trans d_w4
    have x_w5 := (hb_w5.block _ (blk x_w4).2.2).trans x_w4
    have y_w5 := (hb_w5.block _ (blk y_w4).2.2).trans y_w4
    obtain ⟨cc_w5, fc_w5, zc_w5⟩ := blk c_w5
    obtain ⟨cd_w5, fd_w5, zd_w5⟩ := blk d_w5
    obtain ⟨cx_w5, fx_w5, zx_w5⟩ := blk x_w5
    obtain ⟨cy_w5, fy_w5, zy_w5⟩ := blk y_w5
    simp only [putF, Act.put, List.setIfInBounds_toArray, List.set_cons_zero, List.set_cons_succ]
    simp only [q6, q7]
    clear q0 q1 q2 q3 q4 q5 q6 q7 hall hS
    go_wp2_with fail
    (go_at_call 58; refine (H0.out _).mono ?_; rintro e w10 ⟨rfl, hb_w10⟩; refine have_then (P := w10.heap[w.heap.size]? = some (.cells #[.int .i64 c.sets, .int .i64 c.ways, .int .i64 c.doms, .int .i64 c.pad, .int .i64 c.quantum, .slice S.a0 c.slots.length S.n0, .slice S.a1 c.owners.length S.n1, .slice S.a2 c.chans.length S.n2, .slice S.a3 c.tasks.length S.n3] 63)) ((hb_w10.block _ byS).trans byH) (fun c_w10 => ?_); obtain ⟨cc_w10, fc_w10, zc_w10⟩ := blk c_w10; refine have_then (P := w10.heap[w.heap.size + 1]? = some (.cells #[.slice T.a0 d.jobs.length T.n0, .slice T.a1 d.released.length T.n1, .int .i64 d.next, .slice T.a2 d.ins.length T.n2, .slice T.a3 d.taken.length T.n3, .slice T.a4 d.outs.length T.n4, .slice T.a5 d.events.length T.n5] 90)) ((hb_w10.block _ byS).trans byH) (fun d_w10 => ?_); obtain ⟨cd_w10, fd_w10, zd_w10⟩ := blk d_w10; refine have_then (P := w10.heap[w1.heap.size]? = some (.cells #[.slice T1.a0 noDom.jobs.length T1.n0, .slice T1.a1 noDom.released.length T1.n1, .int .i64 noDom.next, .slice T1.a2 noDom.ins.length T1.n2, .slice T1.a3 noDom.taken.length T1.n3, .slice T1.a4 noDom.outs.length T1.n4, .slice T1.a5 noDom.events.length T1.n5] 90)) ((hb_w10.block _ byS).trans byH) (fun x_w10 => ?_); obtain ⟨cx_w10, fx_w10, zx_w10⟩ := blk x_w10; refine have_then (P := w10.heap[w2.heap.size]? = some (.cells #[.slice T2.a0 noDom.jobs.length T2.n0, .slice T2.a1 noDom.released.length T2.n1, .int .i64 noDom.next, .slice T2.a2 noDom.ins.length T2.n2, .slice T2.a3 noDom.taken.length T2.n3, .slice T2.a4 noDom.outs.length T2.n4, .slice T2.a5 noDom.events.length T2.n5] 90)) ((hb_w10.block _ byS).trans byH) (fun y_w10 => ?_); obtain ⟨cy_w10, fy_w10, zy_w10⟩ := blk y_w10; refine have_then (P := w10.heap[w5.heap.size]? = some (.cells #[.slice none 0 0, .slice none 0 0, .int .i64 0, .slice none 0 0, .slice none 0 0, .slice none 0 0, .slice none 0 0] 90)) ((hb_w10.block _ byS).trans byH) (fun f_w10 => ?_); obtain ⟨cf_w10, ff_w10, zf_w10⟩ := blk f_w10; refine have_then (P := w10.heap[w5.heap.size + 1]? = some (.cells #[.slice none 0 0, .slice none 0 0, .int .i64 0, .slice none 0 0, .slice none 0 0, .slice none 0 0, .slice none 0 0] 90)) ((hb_w10.block _ byS).trans byH) (fun r_w10 => ?_); obtain ⟨cr_w10, fr_w10, zr_w10⟩ := blk r_w10; refine have_then (P := Below w.heap.size w w10) byB (fun h_w10 => ?_); have s_w10 := Below.size h_w10; have t_w10 := Below.size hb_w10; (try simp at t_w10); revert hb_w10; intro hb_w10; clear c_w4 cc_w4 fc_w4 d_w4 cd_w4 fd_w4 x_w4 cx_w4 fx_w4 y_w4 cy_w4 fy_w4)
    go_wp2_with fail
    (go_at_call 59; refine (HDN.out _ _ _ ((hx1.next (Nat.le_refl _) byB).up byS)).mono ?_; rintro e w11 ⟨rfl, hb_w11⟩; refine have_then (P := w11.heap[w.heap.size]? = some (.cells #[.int .i64 c.sets, .int .i64 c.ways, .int .i64 c.doms, .int .i64 c.pad, .int .i64 c.quantum, .slice S.a0 c.slots.length S.n0, .slice S.a1 c.owners.length S.n1, .slice S.a2 c.chans.length S.n2, .slice S.a3 c.tasks.length S.n3] 63)) ((hb_w11.block _ byS).trans byH) (fun c_w11 => ?_); obtain ⟨cc_w11, fc_w11, zc_w11⟩ := blk c_w11; refine have_then (P := w11.heap[w.heap.size + 1]? = some (.cells #[.slice T.a0 d.jobs.length T.n0, .slice T.a1 d.released.length T.n1, .int .i64 d.next, .slice T.a2 d.ins.length T.n2, .slice T.a3 d.taken.length T.n3, .slice T.a4 d.outs.length T.n4, .slice T.a5 d.events.length T.n5] 90)) ((hb_w11.block _ byS).trans byH) (fun d_w11 => ?_); obtain ⟨cd_w11, fd_w11, zd_w11⟩ := blk d_w11; refine have_then (P := w11.heap[w1.heap.size]? = some (.cells #[.slice T1.a0 noDom.jobs.length T1.n0, .slice T1.a1 noDom.released.length T1.n1, .int .i64 noDom.next, .slice T1.a2 noDom.ins.length T1.n2, .slice T1.a3 noDom.taken.length T1.n3, .slice T1.a4 noDom.outs.length T1.n4, .slice T1.a5 noDom.events.length T1.n5] 90)) ((hb_w11.block _ byS).trans byH) (fun x_w11 => ?_); obtain ⟨cx_w11, fx_w11, zx_w11⟩ := blk x_w11; refine have_then (P := w11.heap[w2.heap.size]? = some (.cells #[.slice T2.a0 noDom.jobs.length T2.n0, .slice T2.a1 noDom.released.length T2.n1, .int .i64 noDom.next, .slice T2.a2 noDom.ins.length T2.n2, .slice T2.a3 noDom.taken.length T2.n3, .slice T2.a4 noDom.outs.length T2.n4, .slice T2.a5 noDom.events.length T2.n5] 90)) ((hb_w11.block _ byS).trans byH) (fun y_w11 => ?_); obtain ⟨cy_w11, fy_w11, zy_w11⟩ := blk y_w11; refine have_then (P := w11.heap[w5.heap.size]? = some (.cells #[.slice none 0 0, .slice none 0 0, .int .i64 0, .slice none 0 0, .slice none 0 0, .slice none 0 0, .slice none 0 0] 90)) ((hb_w11.block _ byS).trans byH) (fun f_w11 => ?_); obtain ⟨cf_w11, ff_w11, zf_w11⟩ := blk f_w11; refine have_then (P := w11.heap[w5.heap.size + 1]? = some (.cells #[.slice none 0 0, .slice none 0 0, .int .i64 0, .slice none 0 0, .slice none 0 0, .slice none 0 0, .slice none 0 0] 90)) ((hb_w11.block _ byS).trans byH) (fun r_w11 => ?_); obtain ⟨cr_w11, fr_w11, zr_w11⟩ := blk r_w11; refine have_then (P := Below w.heap.size w w11) byB (fun h_w11 => ?_); have s_w11 := Below.size h_w11; have t_w11 := Below.size hb_w11; (try simp at t_w11); revert hb_w11; intro hb_w11; clear c_w10 cc_w10 fc_w10 d_w10 cd_w10 fd_w10 x_w10 cx_w10 fx_w10 y_w10 cy_w10 fy_w10 f_w10 cf_w10 ff_w10 r_w10 cr_w10 fr_w10)
    go_wp2_with fail
    (go_at_call 60; refine (H5.out _ byB).mono ?_; rintro e w12 ⟨rfl, hb_w12⟩; refine have_then (P := w12.heap[w.heap.size]? = some (.cells #[.int .i64 c.sets, .int .i64 c.ways, .int .i64 c.doms, .int .i64 c.pad, .int .i64 c.quantum, .slice S.a0 c.slots.length S.n0, .slice S.a1 c.owners.length S.n1, .slice S.a2 c.chans.length S.n2, .slice S.a3 c.tasks.length S.n3] 63)) ((hb_w12.block _ byS).trans byH) (fun c_w12 => ?_); obtain ⟨cc_w12, fc_w12, zc_w12⟩ := blk c_w12; refine have_then (P := w12.heap[w.heap.size + 1]? = some (.cells #[.slice T.a0 d.jobs.length T.n0, .slice T.a1 d.released.length T.n1, .int .i64 d.next, .slice T.a2 d.ins.length T.n2, .slice T.a3 d.taken.length T.n3, .slice T.a4 d.outs.length T.n4, .slice T.a5 d.events.length T.n5] 90)) ((hb_w12.block _ byS).trans byH) (fun d_w12 => ?_); obtain ⟨cd_w12, fd_w12, zd_w12⟩ := blk d_w12; refine have_then (P := w12.heap[w1.heap.size]? = some (.cells #[.slice T1.a0 noDom.jobs.length T1.n0, .slice T1.a1 noDom.released.length T1.n1, .int .i64 noDom.next, .slice T1.a2 noDom.ins.length T1.n2, .slice T1.a3 noDom.taken.length T1.n3, .slice T1.a4 noDom.outs.length T1.n4, .slice T1.a5 noDom.events.length T1.n5] 90)) ((hb_w12.block _ byS).trans byH) (fun x_w12 => ?_); obtain ⟨cx_w12, fx_w12, zx_w12⟩ := blk x_w12; refine have_then (P := w12.heap[w2.heap.size]? = some (.cells #[.slice T2.a0 noDom.jobs.length T2.n0, .slice T2.a1 noDom.released.length T2.n1, .int .i64 noDom.next, .slice T2.a2 noDom.ins.length T2.n2, .slice T2.a3 noDom.taken.length T2.n3, .slice T2.a4 noDom.outs.length T2.n4, .slice T2.a5 noDom.events.length T2.n5] 90)) ((hb_w12.block _ byS).trans byH) (fun y_w12 => ?_); obtain ⟨cy_w12, fy_w12, zy_w12⟩ := blk y_w12; refine have_then (P := w12.heap[w5.heap.size]? = some (.cells #[.slice none 0 0, .slice none 0 0, .int .i64 0, .slice none 0 0, .slice none 0 0, .slice none 0 0, .slice none 0 0] 90)) ((hb_w12.block _ byS).trans byH) (fun f_w12 => ?_); obtain ⟨cf_w12, ff_w12, zf_w12⟩ := blk f_w12; refine have_then (P := w12.heap[w5.heap.size + 1]? = some (.cells #[.slice none 0 0, .slice none 0 0, .int .i64 0, .slice none 0 0, .slice none 0 0, .slice none 0 0, .slice none 0 0] 90)) ((hb_w12.block _ byS).trans byH) (fun r_w12 => ?_); obtain ⟨cr_w12, fr_w12, zr_w12⟩ := blk r_w12; refine have_then (P := Below w.heap.size w w12) byB (fun h_w12 => ?_); have s_w12 := Below.size h_w12; have t_w12 := Below.size hb_w12; (try simp at t_w12); revert hb_w12; intro hb_w12; clear c_w11 cc_w11 fc_w11 d_w11 cd_w11 fd_w11 x_w11 cx_w11 fx_w11 y_w11 cy_w11 fy_w11 f_w11 cf_w11 ff_w11 r_w11 cr_w11 fr_w11)
    go_wp2_with fail
    (go_at_call 59; refine (HDN.out _ _ _ ((hy2.next (Nat.le_refl _) byB).up byS)).mono ?_; rintro e w13 ⟨rfl, hb_w13⟩; refine have_then (P := w13.heap[w.heap.size]? = some (.cells #[.int .i64 c.sets, .int .i64 c.ways, .int .i64 c.doms, .int .i64 c.pad, .int .i64 c.quantum, .slice S.a0 c.slots.length S.n0, .slice S.a1 c.owners.length S.n1, .slice S.a2 c.chans.length S.n2, .slice S.a3 c.tasks.length S.n3] 63)) ((hb_w13.block _ byS).trans byH) (fun c_w13 => ?_); obtain ⟨cc_w13, fc_w13, zc_w13⟩ := blk c_w13; refine have_then (P := w13.heap[w.heap.size + 1]? = some (.cells #[.slice T.a0 d.jobs.length T.n0, .slice T.a1 d.released.length T.n1, .int .i64 d.next, .slice T.a2 d.ins.length T.n2, .slice T.a3 d.taken.length T.n3, .slice T.a4 d.outs.length T.n4, .slice T.a5 d.events.length T.n5] 90)) ((hb_w13.block _ byS).trans byH) (fun d_w13 => ?_); obtain ⟨cd_w13, fd_w13, zd_w13⟩ := blk d_w13; refine have_then (P := w13.heap[w1.heap.size]? = some (.cells #[.slice T1.a0 noDom.jobs.length T1.n0, .slice T1.a1 noDom.released.length T1.n1, .int .i64 noDom.next, .slice T1.a2 noDom.ins.length T1.n2, .slice T1.a3 noDom.taken.length T1.n3, .slice T1.a4 noDom.outs.length T1.n4, .slice T1.a5 noDom.events.length T1.n5] 90)) ((hb_w13.block _ byS).trans byH) (fun x_w13 => ?_); obtain ⟨cx_w13, fx_w13, zx_w13⟩ := blk x_w13; refine have_then (P := w13.heap[w2.heap.size]? = some (.cells #[.slice T2.a0 noDom.jobs.length T2.n0, .slice T2.a1 noDom.released.length T2.n1, .int .i64 noDom.next, .slice T2.a2 noDom.ins.length T2.n2, .slice T2.a3 noDom.taken.length T2.n3, .slice T2.a4 noDom.outs.length T2.n4, .slice T2.a5 noDom.events.length T2.n5] 90)) ((hb_w13.block _ byS).trans byH) (fun y_w13 => ?_); obtain ⟨cy_w13, fy_w13, zy_w13⟩ := blk y_w13; refine have_then (P := w13.heap[w5.heap.size]? = some (.cells #[.slice none 0 0, .slice none 0 0, .int .i64 0, .slice none 0 0, .slice none 0 0, .slice none 0 0, .slice none 0 0] 90)) ((hb_w13.block _ byS).trans byH) (fun f_w13 => ?_); obtain ⟨cf_w13, ff_w13, zf_w13⟩ := blk f_w13; refine have_then (P := w13.heap[w5.heap.size + 1]? = some (.cells #[.slice none 0 0, .slice none 0 0, .int .i64 0, .slice none 0 0, .slice none 0 0, .slice none 0 0, .slice none 0 0] 90)) ((hb_w13.block _ byS).trans byH) (fun r_w13 => ?_); obtain ⟨cr_w13, fr_w13, zr_w13⟩ := blk r_w13; refine have_then (P := Below w.heap.size w w13) byB (fun h_w13 => ?_); have s_w13 := Below.size h_w13; have t_w13 := Below.size hb_w13; (try simp at t_w13); revert hb_w13; intro hb_w13; clear c_w12 cc_w12 fc_w12 d_w12 cd_w12 fd_w12 x_w12 cx_w12 fx_w12 y_w12 cy_w12 fy_w12 f_w12 cf_w12 ff_w12 r_w12 cr_w12 fr_w12)
    go_wp2_with fail
    go_ret
    exact ⟨ret_bool (by simp), byB⟩

theorem lawReadyTells_b (c : TCfg) (S : TCfgS) (dom : Int) (d : TDom) (T : TDomS) (now : Int) (hz : DomSz d) (hev : d.events.length + 40 ≤ 4398046511104) (B : Nat) (w : World) (hB : B ≤ w.heap.size) (hs : TCfg.At (Low B) w c S) (hd : TDom.At (Low B) w d T) (e1 : checkConfig c = 0) (e2 : isDom c.doms dom = false) :
    Calls Try.prog 11 #[.agg #[.int .i64 c.sets, .int .i64 c.ways, .int .i64 c.doms, .int .i64 c.pad, .int .i64 c.quantum, .slice S.a0 c.slots.length S.n0, .slice S.a1 c.owners.length S.n1, .slice S.a2 c.chans.length S.n2, .slice S.a3 c.tasks.length S.n3], .int .i64 dom, .agg #[.slice T.a0 d.jobs.length T.n0, .slice T.a1 d.released.length T.n1, .int .i64 d.next, .slice T.a2 d.ins.length T.n2, .slice T.a3 d.taken.length T.n3, .slice T.a4 d.outs.length T.n4, .slice T.a5 d.events.length T.n5], .int .i64 now] w fun en w' => en = .returned (.bool true) ∧ Below w.heap.size w w' := by
  have HN := Lib.hid (fun W (h : Below w.heap.size w W) => readyNew c S dom B W (Nat.le_trans hB h.size) (hs.next hB h))
  have HL := Lib.hid (fun W (h : Below w.heap.size w W) => readyRelease c S dom d T now hz hev B W (Nat.le_trans hB h.size) (hs.next hB h) (hd.next hB h))
  have H3 := Lib.hid (fun W (h : Below w.heap.size w W) => readyPick c S dom d T hz B W (Nat.le_trans hB h.size) (hs.next hB h) (hd.next hB h))
  have H4 := Lib.hid (fun W (h : Below w.heap.size w W) => readyDue c S dom d T hz B W (Nat.le_trans hB h.size) (hs.next hB h) (hd.next hB h))
  have H5 := Lib.hid (fun W (h : Below w.heap.size w W) => readyCheck c S dom d T B W (Nat.le_trans hB h.size) (hs.next hB h) (hd.next hB h))
  have HA := Lib.hid (fun W (h : Below w.heap.size w W) => refCheckConfig c S B W (Nat.le_trans hB h.size) (hs.next hB h))
  have HB2 := Lib.hid (fun W (h : Below w.heap.size w W) => refCheckBoth c S dom d T B W (Nat.le_trans hB h.size) (hs.next hB h) (hd.next hB h))
  have H0 := Lib.hid lawReadyBegun
  have HDN := Lib.hid (fun E W T (h : TDom.At (Low W.heap.size) W noDom T) => lawDomainIs noDom T noDomS E (fun _ => rfl) W.heap.size W (Nat.le_refl _) h ((noDom_own W).read fun _ _ h => h.elim))
  have ok := checkConfig_ok e1
  have e3 : checkBoth c dom d = 5 := by unfold checkBoth thenE; rw [if_pos e1]; unfold domErr; simp [e2]
  have x1 : newErr c dom = 5 := by simp [newErr, e1, e2]
  have x2 : newOf c dom = noDom := by unfold newOf; rw [x1, if_neg (by decide)]
  have y1 : relErr c dom d now = 5 := by simp [relErr, e3]
  have y2 : relOf c dom d now = noDom := by unfold relOf; rw [y1, if_neg (by decide)]
  rw [x1, x2] at HN
  rw [y1, y2] at HL
  rw [e1] at HA
  simp only [e3, show ¬ ((5 : Int) = 0) by decide, if_false] at H3 H4 H5 HB2
  have HX := Lib.hid (fun W => refIsDomain c S dom ok.doms.1 ok.doms.2 W)
  rw [e2] at HX
  clear x1 x2 y1 y2 e1 e2 e3 hz hev hs hd ok
  go_enter Try.func11, Try.ntmps11
  go_wp2_with fail
  (go_at_call 48; refine (HN.out _ byB).mono ?_; rintro e w1 ⟨T1, G1, rfl, hO1, hG1, hb_w1⟩; refine have_then (P := w1.heap[w.heap.size]? = some (.cells #[.int .i64 c.sets, .int .i64 c.ways, .int .i64 c.doms, .int .i64 c.pad, .int .i64 c.quantum, .slice S.a0 c.slots.length S.n0, .slice S.a1 c.owners.length S.n1, .slice S.a2 c.chans.length S.n2, .slice S.a3 c.tasks.length S.n3] 63)) ((hb_w1.block _ byS).trans byH) (fun c_w1 => ?_); obtain ⟨cc_w1, fc_w1, zc_w1⟩ := blk c_w1; refine have_then (P := w1.heap[w.heap.size + 1]? = some (.cells #[.slice T.a0 d.jobs.length T.n0, .slice T.a1 d.released.length T.n1, .int .i64 d.next, .slice T.a2 d.ins.length T.n2, .slice T.a3 d.taken.length T.n3, .slice T.a4 d.outs.length T.n4, .slice T.a5 d.events.length T.n5] 90)) ((hb_w1.block _ byS).trans byH) (fun d_w1 => ?_); obtain ⟨cd_w1, fd_w1, zd_w1⟩ := blk d_w1; refine have_then (P := Below w.heap.size w w1) byB (fun h_w1 => ?_); have s_w1 := Below.size h_w1; have t_w1 := Below.size hb_w1; (try simp at t_w1); revert hb_w1; intro hb_w1)
  have hx1 := hO1.read fun i b hb => hO1.lt i b hb
  clear hO1 hG1
  go_wp2_with fail
  (go_at_call 49; refine (HL.out _ byB).mono ?_; rintro e w2 ⟨T2, G2, rfl, hO2, hG2, hb_w2⟩; refine have_then (P := w2.heap[w.heap.size]? = some (.cells #[.int .i64 c.sets, .int .i64 c.ways, .int .i64 c.doms, .int .i64 c.pad, .int .i64 c.quantum, .slice S.a0 c.slots.length S.n0, .slice S.a1 c.owners.length S.n1, .slice S.a2 c.chans.length S.n2, .slice S.a3 c.tasks.length S.n3] 63)) ((hb_w2.block _ byS).trans byH) (fun c_w2 => ?_); obtain ⟨cc_w2, fc_w2, zc_w2⟩ := blk c_w2; refine have_then (P := w2.heap[w.heap.size + 1]? = some (.cells #[.slice T.a0 d.jobs.length T.n0, .slice T.a1 d.released.length T.n1, .int .i64 d.next, .slice T.a2 d.ins.length T.n2, .slice T.a3 d.taken.length T.n3, .slice T.a4 d.outs.length T.n4, .slice T.a5 d.events.length T.n5] 90)) ((hb_w2.block _ byS).trans byH) (fun d_w2 => ?_); obtain ⟨cd_w2, fd_w2, zd_w2⟩ := blk d_w2; refine have_then (P := w2.heap[w1.heap.size]? = some (.cells #[.slice T1.a0 noDom.jobs.length T1.n0, .slice T1.a1 noDom.released.length T1.n1, .int .i64 noDom.next, .slice T1.a2 noDom.ins.length T1.n2, .slice T1.a3 noDom.taken.length T1.n3, .slice T1.a4 noDom.outs.length T1.n4, .slice T1.a5 noDom.events.length T1.n5] 90)) ((hb_w2.block _ byS).trans byH) (fun x_w2 => ?_); obtain ⟨cx_w2, fx_w2, zx_w2⟩ := blk x_w2; refine have_then (P := Below w.heap.size w w2) byB (fun h_w2 => ?_); have s_w2 := Below.size h_w2; have t_w2 := Below.size hb_w2; (try simp at t_w2); revert hb_w2; intro hb_w2; clear c_w1 cc_w1 fc_w1 d_w1 cd_w1 fd_w1)
  have hy2 := hO2.read fun i b hb => hO2.lt i b hb
  clear hO2 hG2
  go_wp2_with fail
  (go_at_call 50; refine (H3.out _ byB).mono ?_; rintro e w3 ⟨rfl, hb_w3⟩; refine have_then (P := w3.heap[w.heap.size]? = some (.cells #[.int .i64 c.sets, .int .i64 c.ways, .int .i64 c.doms, .int .i64 c.pad, .int .i64 c.quantum, .slice S.a0 c.slots.length S.n0, .slice S.a1 c.owners.length S.n1, .slice S.a2 c.chans.length S.n2, .slice S.a3 c.tasks.length S.n3] 63)) ((hb_w3.block _ byS).trans byH) (fun c_w3 => ?_); obtain ⟨cc_w3, fc_w3, zc_w3⟩ := blk c_w3; refine have_then (P := w3.heap[w.heap.size + 1]? = some (.cells #[.slice T.a0 d.jobs.length T.n0, .slice T.a1 d.released.length T.n1, .int .i64 d.next, .slice T.a2 d.ins.length T.n2, .slice T.a3 d.taken.length T.n3, .slice T.a4 d.outs.length T.n4, .slice T.a5 d.events.length T.n5] 90)) ((hb_w3.block _ byS).trans byH) (fun d_w3 => ?_); obtain ⟨cd_w3, fd_w3, zd_w3⟩ := blk d_w3; refine have_then (P := w3.heap[w1.heap.size]? = some (.cells #[.slice T1.a0 noDom.jobs.length T1.n0, .slice T1.a1 noDom.released.length T1.n1, .int .i64 noDom.next, .slice T1.a2 noDom.ins.length T1.n2, .slice T1.a3 noDom.taken.length T1.n3, .slice T1.a4 noDom.outs.length T1.n4, .slice T1.a5 noDom.events.length T1.n5] 90)) ((hb_w3.block _ byS).trans byH) (fun x_w3 => ?_); obtain ⟨cx_w3, fx_w3, zx_w3⟩ := blk x_w3; refine have_then (P := w3.heap[w2.heap.size]? = some (.cells #[.slice T2.a0 noDom.jobs.length T2.n0, .slice T2.a1 noDom.released.length T2.n1, .int .i64 noDom.next, .slice T2.a2 noDom.ins.length T2.n2, .slice T2.a3 noDom.taken.length T2.n3, .slice T2.a4 noDom.outs.length T2.n4, .slice T2.a5 noDom.events.length T2.n5] 90)) ((hb_w3.block _ byS).trans byH) (fun y_w3 => ?_); obtain ⟨cy_w3, fy_w3, zy_w3⟩ := blk y_w3; refine have_then (P := Below w.heap.size w w3) byB (fun h_w3 => ?_); have s_w3 := Below.size h_w3; have t_w3 := Below.size hb_w3; (try simp at t_w3); revert hb_w3; intro hb_w3; clear c_w2 cc_w2 fc_w2 d_w2 cd_w2 fd_w2 x_w2 cx_w2 fx_w2)
  go_wp2_with fail
  (go_at_call 51; refine (H4.out _ byB).mono ?_; rintro e w4 ⟨rfl, hb_w4⟩; refine have_then (P := w4.heap[w.heap.size]? = some (.cells #[.int .i64 c.sets, .int .i64 c.ways, .int .i64 c.doms, .int .i64 c.pad, .int .i64 c.quantum, .slice S.a0 c.slots.length S.n0, .slice S.a1 c.owners.length S.n1, .slice S.a2 c.chans.length S.n2, .slice S.a3 c.tasks.length S.n3] 63)) ((hb_w4.block _ byS).trans byH) (fun c_w4 => ?_); obtain ⟨cc_w4, fc_w4, zc_w4⟩ := blk c_w4; refine have_then (P := w4.heap[w.heap.size + 1]? = some (.cells #[.slice T.a0 d.jobs.length T.n0, .slice T.a1 d.released.length T.n1, .int .i64 d.next, .slice T.a2 d.ins.length T.n2, .slice T.a3 d.taken.length T.n3, .slice T.a4 d.outs.length T.n4, .slice T.a5 d.events.length T.n5] 90)) ((hb_w4.block _ byS).trans byH) (fun d_w4 => ?_); obtain ⟨cd_w4, fd_w4, zd_w4⟩ := blk d_w4; refine have_then (P := w4.heap[w1.heap.size]? = some (.cells #[.slice T1.a0 noDom.jobs.length T1.n0, .slice T1.a1 noDom.released.length T1.n1, .int .i64 noDom.next, .slice T1.a2 noDom.ins.length T1.n2, .slice T1.a3 noDom.taken.length T1.n3, .slice T1.a4 noDom.outs.length T1.n4, .slice T1.a5 noDom.events.length T1.n5] 90)) ((hb_w4.block _ byS).trans byH) (fun x_w4 => ?_); obtain ⟨cx_w4, fx_w4, zx_w4⟩ := blk x_w4; refine have_then (P := w4.heap[w2.heap.size]? = some (.cells #[.slice T2.a0 noDom.jobs.length T2.n0, .slice T2.a1 noDom.released.length T2.n1, .int .i64 noDom.next, .slice T2.a2 noDom.ins.length T2.n2, .slice T2.a3 noDom.taken.length T2.n3, .slice T2.a4 noDom.outs.length T2.n4, .slice T2.a5 noDom.events.length T2.n5] 90)) ((hb_w4.block _ byS).trans byH) (fun y_w4 => ?_); obtain ⟨cy_w4, fy_w4, zy_w4⟩ := blk y_w4; refine have_then (P := Below w.heap.size w w4) byB (fun h_w4 => ?_); have s_w4 := Below.size h_w4; have t_w4 := Below.size hb_w4; (try simp at t_w4); revert hb_w4; intro hb_w4; clear c_w3 cc_w3 fc_w3 d_w3 cd_w3 fd_w3 x_w3 cx_w3 fx_w3 y_w3 cy_w3 fy_w3)
  go_wp2_with fail
  refine wp_region_inv [52, 53, 54, 55, 56, 57, 17, 18] (fun l f W => (Below w4.heap.size w4 W ∧ l.size = 8) ∧ Fa l 0 (f 52 = .agg #[.int .i64 c.sets, .int .i64 c.ways, .int .i64 c.doms, .int .i64 c.pad, .int .i64 c.quantum, .slice S.a0 c.slots.length S.n0, .slice S.a1 c.owners.length S.n1, .slice S.a2 c.chans.length S.n2, .slice S.a3 c.tasks.length S.n3]) ∧ Fa l 1 (f 53 = .int .i64 0) ∧ Fa l 2 (f 54 = .agg #[.int .i64 c.sets, .int .i64 c.ways, .int .i64 c.doms, .int .i64 c.pad, .int .i64 c.quantum, .slice S.a0 c.slots.length S.n0, .slice S.a1 c.owners.length S.n1, .slice S.a2 c.chans.length S.n2, .slice S.a3 c.tasks.length S.n3]) ∧ Fa l 3 (f 55 = .int .i64 dom) ∧ Fa l 4 (f 56 = .agg #[.slice T.a0 d.jobs.length T.n0, .slice T.a1 d.released.length T.n1, .int .i64 d.next, .slice T.a2 d.ins.length T.n2, .slice T.a3 d.taken.length T.n3, .slice T.a4 d.outs.length T.n4, .slice T.a5 d.events.length T.n5]) ∧ Fa l 5 (f 57 = .int .i64 5) ∧ Fa l 6 (f 17 = .int .i64 0) ∧ Fa l 7 (f 18 = .int .i64 5)) (by kernel_rfl) (by decide) (by kernel_rfl) (by intro s hs; simp at hs ⊢; omega) ?_ ?_ ?_
  · intro l hz hl
    exact ⟨⟨(Below.refl _ _).drew, hz⟩, .no (hl 0), .no (hl 1), .no (hl 2), .no (hl 3), .no (hl 4), .no (hl 5), .no (hl 6), .no (hl 7)⟩
  · refine StepsL.cons 1 [] rfl (by kernel_rfl) rfl (by intro d hd; injection hd with hd; subst hd; decide) (fun l f W hR hn hb K Q2 hK => ?_) ?_
    · obtain ⟨hS, h0, h1, h2, h3, h4, h5, h6, h7⟩ := hR
      replace hb := Lib.hid hb
      refine ⟨?_⟩
      simp only [putF, Act.put, List.setIfInBounds_toArray, List.set_cons_zero, List.set_cons_succ] at hK ⊢
      replace hK := Lib.hid hK
      obtain ⟨cX, fX, zX⟩ := blk ((hS.1.block _ (blk c_w4).2.2).trans c_w4)
      go_simp
      refine hK.out.out _ _ ⟨⟨hS.1, by simpa using hS.2⟩, ⟨fun _ => rfl⟩, h1.k, h2.k, h3.k, h4.k, h5.k, h6.k, h7.k⟩
    refine StepsL.cons 2 [0] rfl (by kernel_rfl) rfl (by intro d hd; injection hd with hd; subst hd; decide) (fun l f W hR hn hb K Q2 hK => ?_) ?_
    · obtain ⟨hS, h0, h1, h2, h3, h4, h5, h6, h7⟩ := hR
      have q0 := h0.out (hb 0 (by simp))
      replace hb := Lib.hid hb
      refine ⟨?_⟩
      simp only [putF, Act.put, List.setIfInBounds_toArray, List.set_cons_zero, List.set_cons_succ] at hK ⊢
      (try simp only [q0] at hK)
      replace hK := Lib.hid hK
      have HC := HA.out W (h_w4.trans (hS.1.mono s_w4))
      go_simp
      go_at_call 35
      refine HC.mono ?_
      clear HC
      rintro e w3 ⟨rfl, hb3⟩
      try dsimp only
      try simp only [Act.put, List.setIfInBounds_toArray, List.set_cons_zero, List.set_cons_succ]
      refine hK.out.out _ _ ⟨⟨hS.1.trans (hb3.mono hS.1.size), by simpa using hS.2⟩, h0.k, ⟨fun _ => rfl⟩, h2.k, h3.k, h4.k, h5.k, h6.k, h7.k⟩
    refine StepsL.cons 3 [] rfl (by kernel_rfl) rfl (by intro d hd; injection hd with hd; subst hd; decide) (fun l f W hR hn hb K Q2 hK => ?_) ?_
    · obtain ⟨hS, h0, h1, h2, h3, h4, h5, h6, h7⟩ := hR
      replace hb := Lib.hid hb
      refine ⟨?_⟩
      simp only [putF, Act.put, List.setIfInBounds_toArray, List.set_cons_zero, List.set_cons_succ] at hK ⊢
      replace hK := Lib.hid hK
      obtain ⟨cX, fX, zX⟩ := blk ((hS.1.block _ (blk c_w4).2.2).trans c_w4)
      go_simp
      refine hK.out.out _ _ ⟨⟨hS.1, by simpa using hS.2⟩, h0.k, h1.k, ⟨fun _ => rfl⟩, h3.k, h4.k, h5.k, h6.k, h7.k⟩
    refine StepsL.cons 4 [] rfl (by kernel_rfl) rfl (by intro d hd; injection hd with hd; subst hd; decide) (fun l f W hR hn hb K Q2 hK => ?_) ?_
    · obtain ⟨hS, h0, h1, h2, h3, h4, h5, h6, h7⟩ := hR
      replace hb := Lib.hid hb
      refine ⟨?_⟩
      simp only [putF, Act.put, List.setIfInBounds_toArray, List.set_cons_zero, List.set_cons_succ] at hK ⊢
      replace hK := Lib.hid hK
      go_simp
      refine hK.out.out _ _ ⟨⟨hS.1, by simpa using hS.2⟩, h0.k, h1.k, h2.k, ⟨fun _ => rfl⟩, h4.k, h5.k, h6.k, h7.k⟩
    refine StepsL.cons 5 [] rfl (by kernel_rfl) rfl (by intro d hd; injection hd with hd; subst hd; decide) (fun l f W hR hn hb K Q2 hK => ?_) ?_
    · obtain ⟨hS, h0, h1, h2, h3, h4, h5, h6, h7⟩ := hR
      replace hb := Lib.hid hb
      refine ⟨?_⟩
      simp only [putF, Act.put, List.setIfInBounds_toArray, List.set_cons_zero, List.set_cons_succ] at hK ⊢
      replace hK := Lib.hid hK
      obtain ⟨cX, fX, zX⟩ := blk ((hS.1.block _ (blk d_w4).2.2).trans d_w4)
      go_simp
      refine hK.out.out _ _ ⟨⟨hS.1, by simpa using hS.2⟩, h0.k, h1.k, h2.k, h3.k, ⟨fun _ => rfl⟩, h5.k, h6.k, h7.k⟩
    refine StepsL.cons 6 [2, 3, 4, 1] rfl (by kernel_rfl) rfl (by intro d hd; injection hd with hd; subst hd; decide) (fun l f W hR hn hb K Q2 hK => ?_) ?_
    · obtain ⟨hS, h0, h1, h2, h3, h4, h5, h6, h7⟩ := hR
      have q1 := h1.out (hb 1 (by simp))
      have q2 := h2.out (hb 2 (by simp))
      have q3 := h3.out (hb 3 (by simp))
      have q4 := h4.out (hb 4 (by simp))
      replace hb := Lib.hid hb
      refine ⟨?_⟩
      simp only [putF, Act.put, List.setIfInBounds_toArray, List.set_cons_zero, List.set_cons_succ] at hK ⊢
      (try simp only [q1, q2, q3, q4] at hK)
      replace hK := Lib.hid hK
      have HC := HB2.out W (h_w4.trans (hS.1.mono s_w4))
      go_simp
      go_at_call 52
      refine HC.mono ?_
      clear HC
      rintro e w3 ⟨rfl, hb3⟩
      try dsimp only
      try simp only [Act.put, List.setIfInBounds_toArray, List.set_cons_zero, List.set_cons_succ]
      refine hK.out.out _ _ ⟨⟨hS.1.trans (hb3.mono hS.1.size), by simpa using hS.2⟩, h0.k, h1.k, h2.k, h3.k, h4.k, ⟨fun _ => rfl⟩, h6.k, h7.k⟩
    refine StepsL.cons 7 [1, 5, 0, 1] rfl (by kernel_rfl) rfl (by intro d hd; injection hd with hd; subst hd; decide) (fun l f W hR hn hb K Q2 hK => ?_) ?_
    · obtain ⟨hS, h0, h1, h2, h3, h4, h5, h6, h7⟩ := hR
      have q0 := h0.out (hb 0 (by simp))
      have q1 := h1.out (hb 1 (by simp))
      have q5 := h5.out (hb 5 (by simp))
      replace hb := Lib.hid hb
      refine ⟨?_⟩
      simp only [putF, Act.put, List.setIfInBounds_toArray, List.set_cons_zero, List.set_cons_succ] at hK ⊢
      (try simp only [q0, q1, q5] at hK)
      replace hK := Lib.hid hK
      go_simp
      refine hK.out.out _ _ ⟨⟨hS.1, by simpa using hS.2⟩, h0.k, h1.k, h2.k, h3.k, h4.k, h5.k, ⟨fun _ => rfl⟩, h7.k⟩
    refine StepsL.cons 8 [5, 6, 0, 1, 2, 3, 4, 5, 6] rfl (by kernel_rfl) rfl (by intro d hd; injection hd with hd; subst hd; decide) (fun l f W hR hn hb K Q2 hK => ?_) ?_
    · obtain ⟨hS, h0, h1, h2, h3, h4, h5, h6, h7⟩ := hR
      have q0 := h0.out (hb 0 (by simp))
      have q1 := h1.out (hb 1 (by simp))
      have q2 := h2.out (hb 2 (by simp))
      have q3 := h3.out (hb 3 (by simp))
      have q4 := h4.out (hb 4 (by simp))
      have q5 := h5.out (hb 5 (by simp))
      have q6 := h6.out (hb 6 (by simp))
      replace hb := Lib.hid hb
      refine ⟨?_⟩
      simp only [putF, Act.put, List.setIfInBounds_toArray, List.set_cons_zero, List.set_cons_succ] at hK ⊢
      (try simp only [q0, q1, q2, q3, q4, q5, q6] at hK)
      replace hK := Lib.hid hK
      go_simp
      refine hK.out.out _ _ ⟨⟨hS.1, by simpa using hS.2⟩, h0.k, h1.k, h2.k, h3.k, h4.k, h5.k, h6.k, ⟨fun _ => rfl⟩⟩
    exact StepsL.nil
  · intro l f W hR hall
    obtain ⟨hS, h0, h1, h2, h3, h4, h5, h6, h7⟩ := hR
    have q0 := h0.out (hall 0 (by decide))
    have q1 := h1.out (hall 1 (by decide))
    have q2 := h2.out (hall 2 (by decide))
    have q3 := h3.out (hall 3 (by decide))
    have q4 := h4.out (hall 4 (by decide))
    have q5 := h5.out (hall 5 (by decide))
    have q6 := h6.out (hall 6 (by decide))
    have q7 := h7.out (hall 7 (by decide))
    clear h0 h1 h2 h3 h4 h5 h6 h7
    obtain ⟨w5, rfl⟩ : ∃ X, X = W := ⟨_, rfl⟩
    have hb_w5 : Below w4.heap.size w4 w5 := hS.1
    have h_w5 : Below w.heap.size w w5 := h_w4.trans (hb_w5.mono s_w4)
    revert hb_w5; intro hb_w5
    have s_w5 := Below.size h_w5
    have t_w5 := Below.size hb_w5
    have c_w5 := (hb_w5.block _ (blk c_w4).2.2).trans c_w4
    have d_w5 := (hb_w5.block _ (blk d_w4).2.2).trans d_w4
    have x_w5 := (hb_w5.block _ (blk x_w4).2.2).trans x_w4
    have y_w5 := (hb_w5.block _ (blk y_w4).2.2).trans y_w4
    obtain ⟨cc_w5, fc_w5, zc_w5⟩ := blk c_w5
    obtain ⟨cd_w5, fd_w5, zd_w5⟩ := blk d_w5
    obtain ⟨cx_w5, fx_w5, zx_w5⟩ := blk x_w5
    obtain ⟨cy_w5, fy_w5, zy_w5⟩ := blk y_w5
    simp only [putF, Act.put, List.setIfInBounds_toArray, List.set_cons_zero, List.set_cons_succ]
    simp only [q6, q7]
    clear q0 q1 q2 q3 q4 q5 q6 q7 hall hS
    go_wp2_with fail
    (go_at_call 36; refine (HX.out _).mono ?_; rintro e w6 ⟨rfl, hb_w6⟩; refine have_then (P := w6.heap[w.heap.size]? = some (.cells #[.int .i64 c.sets, .int .i64 c.ways, .int .i64 c.doms, .int .i64 c.pad, .int .i64 c.quantum, .slice S.a0 c.slots.length S.n0, .slice S.a1 c.owners.length S.n1, .slice S.a2 c.chans.length S.n2, .slice S.a3 c.tasks.length S.n3] 63)) ((hb_w6.block _ byS).trans byH) (fun c_w6 => ?_); obtain ⟨cc_w6, fc_w6, zc_w6⟩ := blk c_w6; refine have_then (P := w6.heap[w.heap.size + 1]? = some (.cells #[.slice T.a0 d.jobs.length T.n0, .slice T.a1 d.released.length T.n1, .int .i64 d.next, .slice T.a2 d.ins.length T.n2, .slice T.a3 d.taken.length T.n3, .slice T.a4 d.outs.length T.n4, .slice T.a5 d.events.length T.n5] 90)) ((hb_w6.block _ byS).trans byH) (fun d_w6 => ?_); obtain ⟨cd_w6, fd_w6, zd_w6⟩ := blk d_w6; refine have_then (P := w6.heap[w1.heap.size]? = some (.cells #[.slice T1.a0 noDom.jobs.length T1.n0, .slice T1.a1 noDom.released.length T1.n1, .int .i64 noDom.next, .slice T1.a2 noDom.ins.length T1.n2, .slice T1.a3 noDom.taken.length T1.n3, .slice T1.a4 noDom.outs.length T1.n4, .slice T1.a5 noDom.events.length T1.n5] 90)) ((hb_w6.block _ byS).trans byH) (fun x_w6 => ?_); obtain ⟨cx_w6, fx_w6, zx_w6⟩ := blk x_w6; refine have_then (P := w6.heap[w2.heap.size]? = some (.cells #[.slice T2.a0 noDom.jobs.length T2.n0, .slice T2.a1 noDom.released.length T2.n1, .int .i64 noDom.next, .slice T2.a2 noDom.ins.length T2.n2, .slice T2.a3 noDom.taken.length T2.n3, .slice T2.a4 noDom.outs.length T2.n4, .slice T2.a5 noDom.events.length T2.n5] 90)) ((hb_w6.block _ byS).trans byH) (fun y_w6 => ?_); obtain ⟨cy_w6, fy_w6, zy_w6⟩ := blk y_w6; refine have_then (P := Below w.heap.size w w6) byB (fun h_w6 => ?_); have s_w6 := Below.size h_w6; have t_w6 := Below.size hb_w6; (try simp at t_w6); revert hb_w6; intro hb_w6; clear c_w4 cc_w4 fc_w4 d_w4 cd_w4 fd_w4 x_w4 cx_w4 fx_w4 y_w4 cy_w4 fy_w4)
    go_wp2_with fail
    (go_at_call 58; refine (H0.out _).mono ?_; rintro e w10 ⟨rfl, hb_w10⟩; refine have_then (P := w10.heap[w.heap.size]? = some (.cells #[.int .i64 c.sets, .int .i64 c.ways, .int .i64 c.doms, .int .i64 c.pad, .int .i64 c.quantum, .slice S.a0 c.slots.length S.n0, .slice S.a1 c.owners.length S.n1, .slice S.a2 c.chans.length S.n2, .slice S.a3 c.tasks.length S.n3] 63)) ((hb_w10.block _ byS).trans byH) (fun c_w10 => ?_); obtain ⟨cc_w10, fc_w10, zc_w10⟩ := blk c_w10; refine have_then (P := w10.heap[w.heap.size + 1]? = some (.cells #[.slice T.a0 d.jobs.length T.n0, .slice T.a1 d.released.length T.n1, .int .i64 d.next, .slice T.a2 d.ins.length T.n2, .slice T.a3 d.taken.length T.n3, .slice T.a4 d.outs.length T.n4, .slice T.a5 d.events.length T.n5] 90)) ((hb_w10.block _ byS).trans byH) (fun d_w10 => ?_); obtain ⟨cd_w10, fd_w10, zd_w10⟩ := blk d_w10; refine have_then (P := w10.heap[w1.heap.size]? = some (.cells #[.slice T1.a0 noDom.jobs.length T1.n0, .slice T1.a1 noDom.released.length T1.n1, .int .i64 noDom.next, .slice T1.a2 noDom.ins.length T1.n2, .slice T1.a3 noDom.taken.length T1.n3, .slice T1.a4 noDom.outs.length T1.n4, .slice T1.a5 noDom.events.length T1.n5] 90)) ((hb_w10.block _ byS).trans byH) (fun x_w10 => ?_); obtain ⟨cx_w10, fx_w10, zx_w10⟩ := blk x_w10; refine have_then (P := w10.heap[w2.heap.size]? = some (.cells #[.slice T2.a0 noDom.jobs.length T2.n0, .slice T2.a1 noDom.released.length T2.n1, .int .i64 noDom.next, .slice T2.a2 noDom.ins.length T2.n2, .slice T2.a3 noDom.taken.length T2.n3, .slice T2.a4 noDom.outs.length T2.n4, .slice T2.a5 noDom.events.length T2.n5] 90)) ((hb_w10.block _ byS).trans byH) (fun y_w10 => ?_); obtain ⟨cy_w10, fy_w10, zy_w10⟩ := blk y_w10; refine have_then (P := w10.heap[w6.heap.size]? = some (.cells #[.slice none 0 0, .slice none 0 0, .int .i64 0, .slice none 0 0, .slice none 0 0, .slice none 0 0, .slice none 0 0] 90)) ((hb_w10.block _ byS).trans byH) (fun f_w10 => ?_); obtain ⟨cf_w10, ff_w10, zf_w10⟩ := blk f_w10; refine have_then (P := w10.heap[w6.heap.size + 1]? = some (.cells #[.slice none 0 0, .slice none 0 0, .int .i64 0, .slice none 0 0, .slice none 0 0, .slice none 0 0, .slice none 0 0] 90)) ((hb_w10.block _ byS).trans byH) (fun r_w10 => ?_); obtain ⟨cr_w10, fr_w10, zr_w10⟩ := blk r_w10; refine have_then (P := Below w.heap.size w w10) byB (fun h_w10 => ?_); have s_w10 := Below.size h_w10; have t_w10 := Below.size hb_w10; (try simp at t_w10); revert hb_w10; intro hb_w10; clear c_w6 cc_w6 fc_w6 d_w6 cd_w6 fd_w6 x_w6 cx_w6 fx_w6 y_w6 cy_w6 fy_w6)
    go_wp2_with fail
    (go_at_call 59; refine (HDN.out _ _ _ ((hx1.next (Nat.le_refl _) byB).up byS)).mono ?_; rintro e w11 ⟨rfl, hb_w11⟩; refine have_then (P := w11.heap[w.heap.size]? = some (.cells #[.int .i64 c.sets, .int .i64 c.ways, .int .i64 c.doms, .int .i64 c.pad, .int .i64 c.quantum, .slice S.a0 c.slots.length S.n0, .slice S.a1 c.owners.length S.n1, .slice S.a2 c.chans.length S.n2, .slice S.a3 c.tasks.length S.n3] 63)) ((hb_w11.block _ byS).trans byH) (fun c_w11 => ?_); obtain ⟨cc_w11, fc_w11, zc_w11⟩ := blk c_w11; refine have_then (P := w11.heap[w.heap.size + 1]? = some (.cells #[.slice T.a0 d.jobs.length T.n0, .slice T.a1 d.released.length T.n1, .int .i64 d.next, .slice T.a2 d.ins.length T.n2, .slice T.a3 d.taken.length T.n3, .slice T.a4 d.outs.length T.n4, .slice T.a5 d.events.length T.n5] 90)) ((hb_w11.block _ byS).trans byH) (fun d_w11 => ?_); obtain ⟨cd_w11, fd_w11, zd_w11⟩ := blk d_w11; refine have_then (P := w11.heap[w1.heap.size]? = some (.cells #[.slice T1.a0 noDom.jobs.length T1.n0, .slice T1.a1 noDom.released.length T1.n1, .int .i64 noDom.next, .slice T1.a2 noDom.ins.length T1.n2, .slice T1.a3 noDom.taken.length T1.n3, .slice T1.a4 noDom.outs.length T1.n4, .slice T1.a5 noDom.events.length T1.n5] 90)) ((hb_w11.block _ byS).trans byH) (fun x_w11 => ?_); obtain ⟨cx_w11, fx_w11, zx_w11⟩ := blk x_w11; refine have_then (P := w11.heap[w2.heap.size]? = some (.cells #[.slice T2.a0 noDom.jobs.length T2.n0, .slice T2.a1 noDom.released.length T2.n1, .int .i64 noDom.next, .slice T2.a2 noDom.ins.length T2.n2, .slice T2.a3 noDom.taken.length T2.n3, .slice T2.a4 noDom.outs.length T2.n4, .slice T2.a5 noDom.events.length T2.n5] 90)) ((hb_w11.block _ byS).trans byH) (fun y_w11 => ?_); obtain ⟨cy_w11, fy_w11, zy_w11⟩ := blk y_w11; refine have_then (P := w11.heap[w6.heap.size]? = some (.cells #[.slice none 0 0, .slice none 0 0, .int .i64 0, .slice none 0 0, .slice none 0 0, .slice none 0 0, .slice none 0 0] 90)) ((hb_w11.block _ byS).trans byH) (fun f_w11 => ?_); obtain ⟨cf_w11, ff_w11, zf_w11⟩ := blk f_w11; refine have_then (P := w11.heap[w6.heap.size + 1]? = some (.cells #[.slice none 0 0, .slice none 0 0, .int .i64 0, .slice none 0 0, .slice none 0 0, .slice none 0 0, .slice none 0 0] 90)) ((hb_w11.block _ byS).trans byH) (fun r_w11 => ?_); obtain ⟨cr_w11, fr_w11, zr_w11⟩ := blk r_w11; refine have_then (P := Below w.heap.size w w11) byB (fun h_w11 => ?_); have s_w11 := Below.size h_w11; have t_w11 := Below.size hb_w11; (try simp at t_w11); revert hb_w11; intro hb_w11; clear c_w10 cc_w10 fc_w10 d_w10 cd_w10 fd_w10 x_w10 cx_w10 fx_w10 y_w10 cy_w10 fy_w10 f_w10 cf_w10 ff_w10 r_w10 cr_w10 fr_w10)
    go_wp2_with fail
    (go_at_call 60; refine (H5.out _ byB).mono ?_; rintro e w12 ⟨rfl, hb_w12⟩; refine have_then (P := w12.heap[w.heap.size]? = some (.cells #[.int .i64 c.sets, .int .i64 c.ways, .int .i64 c.doms, .int .i64 c.pad, .int .i64 c.quantum, .slice S.a0 c.slots.length S.n0, .slice S.a1 c.owners.length S.n1, .slice S.a2 c.chans.length S.n2, .slice S.a3 c.tasks.length S.n3] 63)) ((hb_w12.block _ byS).trans byH) (fun c_w12 => ?_); obtain ⟨cc_w12, fc_w12, zc_w12⟩ := blk c_w12; refine have_then (P := w12.heap[w.heap.size + 1]? = some (.cells #[.slice T.a0 d.jobs.length T.n0, .slice T.a1 d.released.length T.n1, .int .i64 d.next, .slice T.a2 d.ins.length T.n2, .slice T.a3 d.taken.length T.n3, .slice T.a4 d.outs.length T.n4, .slice T.a5 d.events.length T.n5] 90)) ((hb_w12.block _ byS).trans byH) (fun d_w12 => ?_); obtain ⟨cd_w12, fd_w12, zd_w12⟩ := blk d_w12; refine have_then (P := w12.heap[w1.heap.size]? = some (.cells #[.slice T1.a0 noDom.jobs.length T1.n0, .slice T1.a1 noDom.released.length T1.n1, .int .i64 noDom.next, .slice T1.a2 noDom.ins.length T1.n2, .slice T1.a3 noDom.taken.length T1.n3, .slice T1.a4 noDom.outs.length T1.n4, .slice T1.a5 noDom.events.length T1.n5] 90)) ((hb_w12.block _ byS).trans byH) (fun x_w12 => ?_); obtain ⟨cx_w12, fx_w12, zx_w12⟩ := blk x_w12; refine have_then (P := w12.heap[w2.heap.size]? = some (.cells #[.slice T2.a0 noDom.jobs.length T2.n0, .slice T2.a1 noDom.released.length T2.n1, .int .i64 noDom.next, .slice T2.a2 noDom.ins.length T2.n2, .slice T2.a3 noDom.taken.length T2.n3, .slice T2.a4 noDom.outs.length T2.n4, .slice T2.a5 noDom.events.length T2.n5] 90)) ((hb_w12.block _ byS).trans byH) (fun y_w12 => ?_); obtain ⟨cy_w12, fy_w12, zy_w12⟩ := blk y_w12; refine have_then (P := w12.heap[w6.heap.size]? = some (.cells #[.slice none 0 0, .slice none 0 0, .int .i64 0, .slice none 0 0, .slice none 0 0, .slice none 0 0, .slice none 0 0] 90)) ((hb_w12.block _ byS).trans byH) (fun f_w12 => ?_); obtain ⟨cf_w12, ff_w12, zf_w12⟩ := blk f_w12; refine have_then (P := w12.heap[w6.heap.size + 1]? = some (.cells #[.slice none 0 0, .slice none 0 0, .int .i64 0, .slice none 0 0, .slice none 0 0, .slice none 0 0, .slice none 0 0] 90)) ((hb_w12.block _ byS).trans byH) (fun r_w12 => ?_); obtain ⟨cr_w12, fr_w12, zr_w12⟩ := blk r_w12; refine have_then (P := Below w.heap.size w w12) byB (fun h_w12 => ?_); have s_w12 := Below.size h_w12; have t_w12 := Below.size hb_w12; (try simp at t_w12); revert hb_w12; intro hb_w12; clear c_w11 cc_w11 fc_w11 d_w11 cd_w11 fd_w11 x_w11 cx_w11 fx_w11 y_w11 cy_w11 fy_w11 f_w11 cf_w11 ff_w11 r_w11 cr_w11 fr_w11)
    go_wp2_with fail
    (go_at_call 59; refine (HDN.out _ _ _ ((hy2.next (Nat.le_refl _) byB).up byS)).mono ?_; rintro e w13 ⟨rfl, hb_w13⟩; refine have_then (P := w13.heap[w.heap.size]? = some (.cells #[.int .i64 c.sets, .int .i64 c.ways, .int .i64 c.doms, .int .i64 c.pad, .int .i64 c.quantum, .slice S.a0 c.slots.length S.n0, .slice S.a1 c.owners.length S.n1, .slice S.a2 c.chans.length S.n2, .slice S.a3 c.tasks.length S.n3] 63)) ((hb_w13.block _ byS).trans byH) (fun c_w13 => ?_); obtain ⟨cc_w13, fc_w13, zc_w13⟩ := blk c_w13; refine have_then (P := w13.heap[w.heap.size + 1]? = some (.cells #[.slice T.a0 d.jobs.length T.n0, .slice T.a1 d.released.length T.n1, .int .i64 d.next, .slice T.a2 d.ins.length T.n2, .slice T.a3 d.taken.length T.n3, .slice T.a4 d.outs.length T.n4, .slice T.a5 d.events.length T.n5] 90)) ((hb_w13.block _ byS).trans byH) (fun d_w13 => ?_); obtain ⟨cd_w13, fd_w13, zd_w13⟩ := blk d_w13; refine have_then (P := w13.heap[w1.heap.size]? = some (.cells #[.slice T1.a0 noDom.jobs.length T1.n0, .slice T1.a1 noDom.released.length T1.n1, .int .i64 noDom.next, .slice T1.a2 noDom.ins.length T1.n2, .slice T1.a3 noDom.taken.length T1.n3, .slice T1.a4 noDom.outs.length T1.n4, .slice T1.a5 noDom.events.length T1.n5] 90)) ((hb_w13.block _ byS).trans byH) (fun x_w13 => ?_); obtain ⟨cx_w13, fx_w13, zx_w13⟩ := blk x_w13; refine have_then (P := w13.heap[w2.heap.size]? = some (.cells #[.slice T2.a0 noDom.jobs.length T2.n0, .slice T2.a1 noDom.released.length T2.n1, .int .i64 noDom.next, .slice T2.a2 noDom.ins.length T2.n2, .slice T2.a3 noDom.taken.length T2.n3, .slice T2.a4 noDom.outs.length T2.n4, .slice T2.a5 noDom.events.length T2.n5] 90)) ((hb_w13.block _ byS).trans byH) (fun y_w13 => ?_); obtain ⟨cy_w13, fy_w13, zy_w13⟩ := blk y_w13; refine have_then (P := w13.heap[w6.heap.size]? = some (.cells #[.slice none 0 0, .slice none 0 0, .int .i64 0, .slice none 0 0, .slice none 0 0, .slice none 0 0, .slice none 0 0] 90)) ((hb_w13.block _ byS).trans byH) (fun f_w13 => ?_); obtain ⟨cf_w13, ff_w13, zf_w13⟩ := blk f_w13; refine have_then (P := w13.heap[w6.heap.size + 1]? = some (.cells #[.slice none 0 0, .slice none 0 0, .int .i64 0, .slice none 0 0, .slice none 0 0, .slice none 0 0, .slice none 0 0] 90)) ((hb_w13.block _ byS).trans byH) (fun r_w13 => ?_); obtain ⟨cr_w13, fr_w13, zr_w13⟩ := blk r_w13; refine have_then (P := Below w.heap.size w w13) byB (fun h_w13 => ?_); have s_w13 := Below.size h_w13; have t_w13 := Below.size hb_w13; (try simp at t_w13); revert hb_w13; intro hb_w13; clear c_w12 cc_w12 fc_w12 d_w12 cd_w12 fd_w12 x_w12 cx_w12 fx_w12 y_w12 cy_w12 fy_w12 f_w12 cf_w12 ff_w12 r_w12 cr_w12 fr_w12)
    go_wp2_with fail
    go_ret
    exact ⟨ret_bool (by simp), byB⟩

theorem lawReadyTells_c (c : TCfg) (S : TCfgS) (dom : Int) (d : TDom) (T : TDomS) (now : Int) (hz : DomSz d) (hev : d.events.length + 40 ≤ 4398046511104) (B : Nat) (w : World) (hB : B ≤ w.heap.size) (hs : TCfg.At (Low B) w c S) (hd : TDom.At (Low B) w d T) (e1 : checkConfig c = 0) (e2 : isDom c.doms dom = true) (e3 : checkBoth c dom d ≠ 0) :
    Calls Try.prog 11 #[.agg #[.int .i64 c.sets, .int .i64 c.ways, .int .i64 c.doms, .int .i64 c.pad, .int .i64 c.quantum, .slice S.a0 c.slots.length S.n0, .slice S.a1 c.owners.length S.n1, .slice S.a2 c.chans.length S.n2, .slice S.a3 c.tasks.length S.n3], .int .i64 dom, .agg #[.slice T.a0 d.jobs.length T.n0, .slice T.a1 d.released.length T.n1, .int .i64 d.next, .slice T.a2 d.ins.length T.n2, .slice T.a3 d.taken.length T.n3, .slice T.a4 d.outs.length T.n4, .slice T.a5 d.events.length T.n5], .int .i64 now] w fun en w' => en = .returned (.bool true) ∧ Below w.heap.size w w' := by
  have HN := Lib.hid (fun W (h : Below w.heap.size w W) => readyNew c S dom B W (Nat.le_trans hB h.size) (hs.next hB h))
  have HL := Lib.hid (fun W (h : Below w.heap.size w W) => readyRelease c S dom d T now hz hev B W (Nat.le_trans hB h.size) (hs.next hB h) (hd.next hB h))
  have H3 := Lib.hid (fun W (h : Below w.heap.size w W) => readyPick c S dom d T hz B W (Nat.le_trans hB h.size) (hs.next hB h) (hd.next hB h))
  have H4 := Lib.hid (fun W (h : Below w.heap.size w W) => readyDue c S dom d T hz B W (Nat.le_trans hB h.size) (hs.next hB h) (hd.next hB h))
  have H5 := Lib.hid (fun W (h : Below w.heap.size w W) => readyCheck c S dom d T B W (Nat.le_trans hB h.size) (hs.next hB h) (hd.next hB h))
  have HA := Lib.hid (fun W (h : Below w.heap.size w W) => refCheckConfig c S B W (Nat.le_trans hB h.size) (hs.next hB h))
  have HB2 := Lib.hid (fun W (h : Below w.heap.size w W) => refCheckBoth c S dom d T B W (Nat.le_trans hB h.size) (hs.next hB h) (hd.next hB h))
  have H0 := Lib.hid lawReadyBegun
  have HDN := Lib.hid (fun E W T (h : TDom.At (Low W.heap.size) W noDom T) => lawDomainIs noDom T noDomS E (fun _ => rfl) W.heap.size W (Nat.le_refl _) h ((noDom_own W).read fun _ _ h => h.elim))
  have ok := checkConfig_ok e1
  have x1 : newErr c dom = 0 := by simp [newErr, e1, e2]
  have x2 : newOf c dom = freshOf c := by unfold newOf; rw [x1, if_pos rfl]
  rw [x1, x2] at HN
  rw [e1] at HA
  have HF := Lib.hid (fun W => refNewDomain c S ok W)
  have HDX := Lib.hid (fun W T1 T2 (h1 : TDom.At (Low W.heap.size) W (freshOf c) T1) (h2 : TDom.At (Low W.heap.size) W (freshOf c) T2) => lawDomainIs (freshOf c) T1 T2 0 (fun h => absurd rfl h) W.heap.size W (Nat.le_refl _) h1 h2)
  have y1 : relErr c dom d now = checkBoth c dom d := by simp [relErr, e3]
  have y2 : relOf c dom d now = noDom := by unfold relOf; rw [y1, if_neg e3]
  rw [y1, y2] at HL
  simp only [if_neg e3] at H3 H4
  have b1 : (checkBoth c dom d == 0) = false := by simp [e3]
  have b2 : (checkBoth c dom d != 0) = true := by simp [e3]
  have b3 : (checkBoth c dom d == checkBoth c dom d) = true := by simp
  have HX := Lib.hid (fun W => refIsDomain c S dom ok.doms.1 ok.doms.2 W)
  rw [e2] at HX
  clear x1 x2 y1 y2 e1 e2 e3 hz hev hs hd ok
  generalize checkBoth c dom d = CE at *
  go_enter Try.func11, Try.ntmps11
  go_wp2_with fail
  (go_at_call 48; refine (HN.out _ byB).mono ?_; rintro e w1 ⟨T1, G1, rfl, hO1, hG1, hb_w1⟩; refine have_then (P := w1.heap[w.heap.size]? = some (.cells #[.int .i64 c.sets, .int .i64 c.ways, .int .i64 c.doms, .int .i64 c.pad, .int .i64 c.quantum, .slice S.a0 c.slots.length S.n0, .slice S.a1 c.owners.length S.n1, .slice S.a2 c.chans.length S.n2, .slice S.a3 c.tasks.length S.n3] 63)) ((hb_w1.block _ byS).trans byH) (fun c_w1 => ?_); obtain ⟨cc_w1, fc_w1, zc_w1⟩ := blk c_w1; refine have_then (P := w1.heap[w.heap.size + 1]? = some (.cells #[.slice T.a0 d.jobs.length T.n0, .slice T.a1 d.released.length T.n1, .int .i64 d.next, .slice T.a2 d.ins.length T.n2, .slice T.a3 d.taken.length T.n3, .slice T.a4 d.outs.length T.n4, .slice T.a5 d.events.length T.n5] 90)) ((hb_w1.block _ byS).trans byH) (fun d_w1 => ?_); obtain ⟨cd_w1, fd_w1, zd_w1⟩ := blk d_w1; refine have_then (P := Below w.heap.size w w1) byB (fun h_w1 => ?_); have s_w1 := Below.size h_w1; have t_w1 := Below.size hb_w1; (try simp at t_w1); revert hb_w1; intro hb_w1)
  have hx1 := hO1.read fun i b hb => hO1.lt i b hb
  clear hO1 hG1
  go_wp2_with fail
  (go_at_call 49; refine (HL.out _ byB).mono ?_; rintro e w2 ⟨T2, G2, rfl, hO2, hG2, hb_w2⟩; refine have_then (P := w2.heap[w.heap.size]? = some (.cells #[.int .i64 c.sets, .int .i64 c.ways, .int .i64 c.doms, .int .i64 c.pad, .int .i64 c.quantum, .slice S.a0 c.slots.length S.n0, .slice S.a1 c.owners.length S.n1, .slice S.a2 c.chans.length S.n2, .slice S.a3 c.tasks.length S.n3] 63)) ((hb_w2.block _ byS).trans byH) (fun c_w2 => ?_); obtain ⟨cc_w2, fc_w2, zc_w2⟩ := blk c_w2; refine have_then (P := w2.heap[w.heap.size + 1]? = some (.cells #[.slice T.a0 d.jobs.length T.n0, .slice T.a1 d.released.length T.n1, .int .i64 d.next, .slice T.a2 d.ins.length T.n2, .slice T.a3 d.taken.length T.n3, .slice T.a4 d.outs.length T.n4, .slice T.a5 d.events.length T.n5] 90)) ((hb_w2.block _ byS).trans byH) (fun d_w2 => ?_); obtain ⟨cd_w2, fd_w2, zd_w2⟩ := blk d_w2; refine have_then (P := w2.heap[w1.heap.size]? = some (.cells #[.slice T1.a0 (freshOf c).jobs.length T1.n0, .slice T1.a1 (freshOf c).released.length T1.n1, .int .i64 (freshOf c).next, .slice T1.a2 (freshOf c).ins.length T1.n2, .slice T1.a3 (freshOf c).taken.length T1.n3, .slice T1.a4 (freshOf c).outs.length T1.n4, .slice T1.a5 (freshOf c).events.length T1.n5] 90)) ((hb_w2.block _ byS).trans byH) (fun x_w2 => ?_); obtain ⟨cx_w2, fx_w2, zx_w2⟩ := blk x_w2; refine have_then (P := Below w.heap.size w w2) byB (fun h_w2 => ?_); have s_w2 := Below.size h_w2; have t_w2 := Below.size hb_w2; (try simp at t_w2); revert hb_w2; intro hb_w2; clear c_w1 cc_w1 fc_w1 d_w1 cd_w1 fd_w1)
  have hy2 := hO2.read fun i b hb => hO2.lt i b hb
  clear hO2 hG2
  go_wp2_with fail
  (go_at_call 50; refine (H3.out _ byB).mono ?_; rintro e w3 ⟨rfl, hb_w3⟩; refine have_then (P := w3.heap[w.heap.size]? = some (.cells #[.int .i64 c.sets, .int .i64 c.ways, .int .i64 c.doms, .int .i64 c.pad, .int .i64 c.quantum, .slice S.a0 c.slots.length S.n0, .slice S.a1 c.owners.length S.n1, .slice S.a2 c.chans.length S.n2, .slice S.a3 c.tasks.length S.n3] 63)) ((hb_w3.block _ byS).trans byH) (fun c_w3 => ?_); obtain ⟨cc_w3, fc_w3, zc_w3⟩ := blk c_w3; refine have_then (P := w3.heap[w.heap.size + 1]? = some (.cells #[.slice T.a0 d.jobs.length T.n0, .slice T.a1 d.released.length T.n1, .int .i64 d.next, .slice T.a2 d.ins.length T.n2, .slice T.a3 d.taken.length T.n3, .slice T.a4 d.outs.length T.n4, .slice T.a5 d.events.length T.n5] 90)) ((hb_w3.block _ byS).trans byH) (fun d_w3 => ?_); obtain ⟨cd_w3, fd_w3, zd_w3⟩ := blk d_w3; refine have_then (P := w3.heap[w1.heap.size]? = some (.cells #[.slice T1.a0 (freshOf c).jobs.length T1.n0, .slice T1.a1 (freshOf c).released.length T1.n1, .int .i64 (freshOf c).next, .slice T1.a2 (freshOf c).ins.length T1.n2, .slice T1.a3 (freshOf c).taken.length T1.n3, .slice T1.a4 (freshOf c).outs.length T1.n4, .slice T1.a5 (freshOf c).events.length T1.n5] 90)) ((hb_w3.block _ byS).trans byH) (fun x_w3 => ?_); obtain ⟨cx_w3, fx_w3, zx_w3⟩ := blk x_w3; refine have_then (P := w3.heap[w2.heap.size]? = some (.cells #[.slice T2.a0 noDom.jobs.length T2.n0, .slice T2.a1 noDom.released.length T2.n1, .int .i64 noDom.next, .slice T2.a2 noDom.ins.length T2.n2, .slice T2.a3 noDom.taken.length T2.n3, .slice T2.a4 noDom.outs.length T2.n4, .slice T2.a5 noDom.events.length T2.n5] 90)) ((hb_w3.block _ byS).trans byH) (fun y_w3 => ?_); obtain ⟨cy_w3, fy_w3, zy_w3⟩ := blk y_w3; refine have_then (P := Below w.heap.size w w3) byB (fun h_w3 => ?_); have s_w3 := Below.size h_w3; have t_w3 := Below.size hb_w3; (try simp at t_w3); revert hb_w3; intro hb_w3; clear c_w2 cc_w2 fc_w2 d_w2 cd_w2 fd_w2 x_w2 cx_w2 fx_w2)
  go_wp2_with fail
  (go_at_call 51; refine (H4.out _ byB).mono ?_; rintro e w4 ⟨rfl, hb_w4⟩; refine have_then (P := w4.heap[w.heap.size]? = some (.cells #[.int .i64 c.sets, .int .i64 c.ways, .int .i64 c.doms, .int .i64 c.pad, .int .i64 c.quantum, .slice S.a0 c.slots.length S.n0, .slice S.a1 c.owners.length S.n1, .slice S.a2 c.chans.length S.n2, .slice S.a3 c.tasks.length S.n3] 63)) ((hb_w4.block _ byS).trans byH) (fun c_w4 => ?_); obtain ⟨cc_w4, fc_w4, zc_w4⟩ := blk c_w4; refine have_then (P := w4.heap[w.heap.size + 1]? = some (.cells #[.slice T.a0 d.jobs.length T.n0, .slice T.a1 d.released.length T.n1, .int .i64 d.next, .slice T.a2 d.ins.length T.n2, .slice T.a3 d.taken.length T.n3, .slice T.a4 d.outs.length T.n4, .slice T.a5 d.events.length T.n5] 90)) ((hb_w4.block _ byS).trans byH) (fun d_w4 => ?_); obtain ⟨cd_w4, fd_w4, zd_w4⟩ := blk d_w4; refine have_then (P := w4.heap[w1.heap.size]? = some (.cells #[.slice T1.a0 (freshOf c).jobs.length T1.n0, .slice T1.a1 (freshOf c).released.length T1.n1, .int .i64 (freshOf c).next, .slice T1.a2 (freshOf c).ins.length T1.n2, .slice T1.a3 (freshOf c).taken.length T1.n3, .slice T1.a4 (freshOf c).outs.length T1.n4, .slice T1.a5 (freshOf c).events.length T1.n5] 90)) ((hb_w4.block _ byS).trans byH) (fun x_w4 => ?_); obtain ⟨cx_w4, fx_w4, zx_w4⟩ := blk x_w4; refine have_then (P := w4.heap[w2.heap.size]? = some (.cells #[.slice T2.a0 noDom.jobs.length T2.n0, .slice T2.a1 noDom.released.length T2.n1, .int .i64 noDom.next, .slice T2.a2 noDom.ins.length T2.n2, .slice T2.a3 noDom.taken.length T2.n3, .slice T2.a4 noDom.outs.length T2.n4, .slice T2.a5 noDom.events.length T2.n5] 90)) ((hb_w4.block _ byS).trans byH) (fun y_w4 => ?_); obtain ⟨cy_w4, fy_w4, zy_w4⟩ := blk y_w4; refine have_then (P := Below w.heap.size w w4) byB (fun h_w4 => ?_); have s_w4 := Below.size h_w4; have t_w4 := Below.size hb_w4; (try simp at t_w4); revert hb_w4; intro hb_w4; clear c_w3 cc_w3 fc_w3 d_w3 cd_w3 fd_w3 x_w3 cx_w3 fx_w3 y_w3 cy_w3 fy_w3)
  go_wp2_with fail
  refine wp_region_inv [52, 53, 54, 55, 56, 57, 17, 18] (fun l f W => (Below w4.heap.size w4 W ∧ l.size = 8) ∧ Fa l 0 (f 52 = .agg #[.int .i64 c.sets, .int .i64 c.ways, .int .i64 c.doms, .int .i64 c.pad, .int .i64 c.quantum, .slice S.a0 c.slots.length S.n0, .slice S.a1 c.owners.length S.n1, .slice S.a2 c.chans.length S.n2, .slice S.a3 c.tasks.length S.n3]) ∧ Fa l 1 (f 53 = .int .i64 0) ∧ Fa l 2 (f 54 = .agg #[.int .i64 c.sets, .int .i64 c.ways, .int .i64 c.doms, .int .i64 c.pad, .int .i64 c.quantum, .slice S.a0 c.slots.length S.n0, .slice S.a1 c.owners.length S.n1, .slice S.a2 c.chans.length S.n2, .slice S.a3 c.tasks.length S.n3]) ∧ Fa l 3 (f 55 = .int .i64 dom) ∧ Fa l 4 (f 56 = .agg #[.slice T.a0 d.jobs.length T.n0, .slice T.a1 d.released.length T.n1, .int .i64 d.next, .slice T.a2 d.ins.length T.n2, .slice T.a3 d.taken.length T.n3, .slice T.a4 d.outs.length T.n4, .slice T.a5 d.events.length T.n5]) ∧ Fa l 5 (f 57 = .int .i64 CE) ∧ Fa l 6 (f 17 = .int .i64 0) ∧ Fa l 7 (f 18 = .int .i64 CE)) (by kernel_rfl) (by decide) (by kernel_rfl) (by intro s hs; simp at hs ⊢; omega) ?_ ?_ ?_
  · intro l hz hl
    exact ⟨⟨(Below.refl _ _).drew, hz⟩, .no (hl 0), .no (hl 1), .no (hl 2), .no (hl 3), .no (hl 4), .no (hl 5), .no (hl 6), .no (hl 7)⟩
  · refine StepsL.cons 1 [] rfl (by kernel_rfl) rfl (by intro d hd; injection hd with hd; subst hd; decide) (fun l f W hR hn hb K Q2 hK => ?_) ?_
    · obtain ⟨hS, h0, h1, h2, h3, h4, h5, h6, h7⟩ := hR
      replace hb := Lib.hid hb
      refine ⟨?_⟩
      simp only [putF, Act.put, List.setIfInBounds_toArray, List.set_cons_zero, List.set_cons_succ] at hK ⊢
      replace hK := Lib.hid hK
      obtain ⟨cX, fX, zX⟩ := blk ((hS.1.block _ (blk c_w4).2.2).trans c_w4)
      go_simp
      refine hK.out.out _ _ ⟨⟨hS.1, by simpa using hS.2⟩, ⟨fun _ => rfl⟩, h1.k, h2.k, h3.k, h4.k, h5.k, h6.k, h7.k⟩
    refine StepsL.cons 2 [0] rfl (by kernel_rfl) rfl (by intro d hd; injection hd with hd; subst hd; decide) (fun l f W hR hn hb K Q2 hK => ?_) ?_
    · obtain ⟨hS, h0, h1, h2, h3, h4, h5, h6, h7⟩ := hR
      have q0 := h0.out (hb 0 (by simp))
      replace hb := Lib.hid hb
      refine ⟨?_⟩
      simp only [putF, Act.put, List.setIfInBounds_toArray, List.set_cons_zero, List.set_cons_succ] at hK ⊢
      (try simp only [q0] at hK)
      replace hK := Lib.hid hK
      have HC := HA.out W (h_w4.trans (hS.1.mono s_w4))
      go_simp
      go_at_call 35
      refine HC.mono ?_
      clear HC
      rintro e w3 ⟨rfl, hb3⟩
      try dsimp only
      try simp only [Act.put, List.setIfInBounds_toArray, List.set_cons_zero, List.set_cons_succ]
      refine hK.out.out _ _ ⟨⟨hS.1.trans (hb3.mono hS.1.size), by simpa using hS.2⟩, h0.k, ⟨fun _ => rfl⟩, h2.k, h3.k, h4.k, h5.k, h6.k, h7.k⟩
    refine StepsL.cons 3 [] rfl (by kernel_rfl) rfl (by intro d hd; injection hd with hd; subst hd; decide) (fun l f W hR hn hb K Q2 hK => ?_) ?_
    · obtain ⟨hS, h0, h1, h2, h3, h4, h5, h6, h7⟩ := hR
      replace hb := Lib.hid hb
      refine ⟨?_⟩
      simp only [putF, Act.put, List.setIfInBounds_toArray, List.set_cons_zero, List.set_cons_succ] at hK ⊢
      replace hK := Lib.hid hK
      obtain ⟨cX, fX, zX⟩ := blk ((hS.1.block _ (blk c_w4).2.2).trans c_w4)
      go_simp
      refine hK.out.out _ _ ⟨⟨hS.1, by simpa using hS.2⟩, h0.k, h1.k, ⟨fun _ => rfl⟩, h3.k, h4.k, h5.k, h6.k, h7.k⟩
    refine StepsL.cons 4 [] rfl (by kernel_rfl) rfl (by intro d hd; injection hd with hd; subst hd; decide) (fun l f W hR hn hb K Q2 hK => ?_) ?_
    · obtain ⟨hS, h0, h1, h2, h3, h4, h5, h6, h7⟩ := hR
      replace hb := Lib.hid hb
      refine ⟨?_⟩
      simp only [putF, Act.put, List.setIfInBounds_toArray, List.set_cons_zero, List.set_cons_succ] at hK ⊢
      replace hK := Lib.hid hK
      go_simp
      refine hK.out.out _ _ ⟨⟨hS.1, by simpa using hS.2⟩, h0.k, h1.k, h2.k, ⟨fun _ => rfl⟩, h4.k, h5.k, h6.k, h7.k⟩
    refine StepsL.cons 5 [] rfl (by kernel_rfl) rfl (by intro d hd; injection hd with hd; subst hd; decide) (fun l f W hR hn hb K Q2 hK => ?_) ?_
    · obtain ⟨hS, h0, h1, h2, h3, h4, h5, h6, h7⟩ := hR
      replace hb := Lib.hid hb
      refine ⟨?_⟩
      simp only [putF, Act.put, List.setIfInBounds_toArray, List.set_cons_zero, List.set_cons_succ] at hK ⊢
      replace hK := Lib.hid hK
      obtain ⟨cX, fX, zX⟩ := blk ((hS.1.block _ (blk d_w4).2.2).trans d_w4)
      go_simp
      refine hK.out.out _ _ ⟨⟨hS.1, by simpa using hS.2⟩, h0.k, h1.k, h2.k, h3.k, ⟨fun _ => rfl⟩, h5.k, h6.k, h7.k⟩
    refine StepsL.cons 6 [2, 3, 4, 1] rfl (by kernel_rfl) rfl (by intro d hd; injection hd with hd; subst hd; decide) (fun l f W hR hn hb K Q2 hK => ?_) ?_
    · obtain ⟨hS, h0, h1, h2, h3, h4, h5, h6, h7⟩ := hR
      have q1 := h1.out (hb 1 (by simp))
      have q2 := h2.out (hb 2 (by simp))
      have q3 := h3.out (hb 3 (by simp))
      have q4 := h4.out (hb 4 (by simp))
      replace hb := Lib.hid hb
      refine ⟨?_⟩
      simp only [putF, Act.put, List.setIfInBounds_toArray, List.set_cons_zero, List.set_cons_succ] at hK ⊢
      (try simp only [q1, q2, q3, q4] at hK)
      replace hK := Lib.hid hK
      have HC := HB2.out W (h_w4.trans (hS.1.mono s_w4))
      go_simp
      go_at_call 52
      refine HC.mono ?_
      clear HC
      rintro e w3 ⟨rfl, hb3⟩
      try dsimp only
      try simp only [Act.put, List.setIfInBounds_toArray, List.set_cons_zero, List.set_cons_succ]
      refine hK.out.out _ _ ⟨⟨hS.1.trans (hb3.mono hS.1.size), by simpa using hS.2⟩, h0.k, h1.k, h2.k, h3.k, h4.k, ⟨fun _ => rfl⟩, h6.k, h7.k⟩
    refine StepsL.cons 7 [1, 5, 0, 1] rfl (by kernel_rfl) rfl (by intro d hd; injection hd with hd; subst hd; decide) (fun l f W hR hn hb K Q2 hK => ?_) ?_
    · obtain ⟨hS, h0, h1, h2, h3, h4, h5, h6, h7⟩ := hR
      have q0 := h0.out (hb 0 (by simp))
      have q1 := h1.out (hb 1 (by simp))
      have q5 := h5.out (hb 5 (by simp))
      replace hb := Lib.hid hb
      refine ⟨?_⟩
      simp only [putF, Act.put, List.setIfInBounds_toArray, List.set_cons_zero, List.set_cons_succ] at hK ⊢
      (try simp only [q0, q1, q5] at hK)
      replace hK := Lib.hid hK
      go_simp
      refine hK.out.out _ _ ⟨⟨hS.1, by simpa using hS.2⟩, h0.k, h1.k, h2.k, h3.k, h4.k, h5.k, ⟨fun _ => rfl⟩, h7.k⟩
    refine StepsL.cons 8 [5, 6, 0, 1, 2, 3, 4, 5, 6] rfl (by kernel_rfl) rfl (by intro d hd; injection hd with hd; subst hd; decide) (fun l f W hR hn hb K Q2 hK => ?_) ?_
    · obtain ⟨hS, h0, h1, h2, h3, h4, h5, h6, h7⟩ := hR
      have q0 := h0.out (hb 0 (by simp))
      have q1 := h1.out (hb 1 (by simp))
      have q2 := h2.out (hb 2 (by simp))
      have q3 := h3.out (hb 3 (by simp))
      have q4 := h4.out (hb 4 (by simp))
      have q5 := h5.out (hb 5 (by simp))
      have q6 := h6.out (hb 6 (by simp))
      replace hb := Lib.hid hb
      refine ⟨?_⟩
      simp only [putF, Act.put, List.setIfInBounds_toArray, List.set_cons_zero, List.set_cons_succ] at hK ⊢
      (try simp only [q0, q1, q2, q3, q4, q5, q6] at hK)
      replace hK := Lib.hid hK
      go_simp
      refine hK.out.out _ _ ⟨⟨hS.1, by simpa using hS.2⟩, h0.k, h1.k, h2.k, h3.k, h4.k, h5.k, h6.k, ⟨fun _ => rfl⟩⟩
    exact StepsL.nil
  · intro l f W hR hall
    obtain ⟨hS, h0, h1, h2, h3, h4, h5, h6, h7⟩ := hR
    have q0 := h0.out (hall 0 (by decide))
    have q1 := h1.out (hall 1 (by decide))
    have q2 := h2.out (hall 2 (by decide))
    have q3 := h3.out (hall 3 (by decide))
    have q4 := h4.out (hall 4 (by decide))
    have q5 := h5.out (hall 5 (by decide))
    have q6 := h6.out (hall 6 (by decide))
    have q7 := h7.out (hall 7 (by decide))
    clear h0 h1 h2 h3 h4 h5 h6 h7
    obtain ⟨w5, rfl⟩ : ∃ X, X = W := ⟨_, rfl⟩
    have hb_w5 : Below w4.heap.size w4 w5 := hS.1
    have h_w5 : Below w.heap.size w w5 := h_w4.trans (hb_w5.mono s_w4)
    revert hb_w5; intro hb_w5
    have s_w5 := Below.size h_w5
    have t_w5 := Below.size hb_w5
    have c_w5 := (hb_w5.block _ (blk c_w4).2.2).trans c_w4
    have d_w5 := (hb_w5.block _ (blk d_w4).2.2).trans d_w4
    have x_w5 := (hb_w5.block _ (blk x_w4).2.2).trans x_w4
    have y_w5 := (hb_w5.block _ (blk y_w4).2.2).trans y_w4
    obtain ⟨cc_w5, fc_w5, zc_w5⟩ := blk c_w5
    obtain ⟨cd_w5, fd_w5, zd_w5⟩ := blk d_w5
    obtain ⟨cx_w5, fx_w5, zx_w5⟩ := blk x_w5
    obtain ⟨cy_w5, fy_w5, zy_w5⟩ := blk y_w5
    simp only [putF, Act.put, List.setIfInBounds_toArray, List.set_cons_zero, List.set_cons_succ]
    simp only [q6, q7]
    clear q0 q1 q2 q3 q4 q5 q6 q7 hall hS
    go_wp2_with fail
    (go_at_call 36; refine (HX.out _).mono ?_; rintro e w6 ⟨rfl, hb_w6⟩; refine have_then (P := w6.heap[w.heap.size]? = some (.cells #[.int .i64 c.sets, .int .i64 c.ways, .int .i64 c.doms, .int .i64 c.pad, .int .i64 c.quantum, .slice S.a0 c.slots.length S.n0, .slice S.a1 c.owners.length S.n1, .slice S.a2 c.chans.length S.n2, .slice S.a3 c.tasks.length S.n3] 63)) ((hb_w6.block _ byS).trans byH) (fun c_w6 => ?_); obtain ⟨cc_w6, fc_w6, zc_w6⟩ := blk c_w6; refine have_then (P := w6.heap[w.heap.size + 1]? = some (.cells #[.slice T.a0 d.jobs.length T.n0, .slice T.a1 d.released.length T.n1, .int .i64 d.next, .slice T.a2 d.ins.length T.n2, .slice T.a3 d.taken.length T.n3, .slice T.a4 d.outs.length T.n4, .slice T.a5 d.events.length T.n5] 90)) ((hb_w6.block _ byS).trans byH) (fun d_w6 => ?_); obtain ⟨cd_w6, fd_w6, zd_w6⟩ := blk d_w6; refine have_then (P := w6.heap[w1.heap.size]? = some (.cells #[.slice T1.a0 (freshOf c).jobs.length T1.n0, .slice T1.a1 (freshOf c).released.length T1.n1, .int .i64 (freshOf c).next, .slice T1.a2 (freshOf c).ins.length T1.n2, .slice T1.a3 (freshOf c).taken.length T1.n3, .slice T1.a4 (freshOf c).outs.length T1.n4, .slice T1.a5 (freshOf c).events.length T1.n5] 90)) ((hb_w6.block _ byS).trans byH) (fun x_w6 => ?_); obtain ⟨cx_w6, fx_w6, zx_w6⟩ := blk x_w6; refine have_then (P := w6.heap[w2.heap.size]? = some (.cells #[.slice T2.a0 noDom.jobs.length T2.n0, .slice T2.a1 noDom.released.length T2.n1, .int .i64 noDom.next, .slice T2.a2 noDom.ins.length T2.n2, .slice T2.a3 noDom.taken.length T2.n3, .slice T2.a4 noDom.outs.length T2.n4, .slice T2.a5 noDom.events.length T2.n5] 90)) ((hb_w6.block _ byS).trans byH) (fun y_w6 => ?_); obtain ⟨cy_w6, fy_w6, zy_w6⟩ := blk y_w6; refine have_then (P := Below w.heap.size w w6) byB (fun h_w6 => ?_); have s_w6 := Below.size h_w6; have t_w6 := Below.size hb_w6; (try simp at t_w6); revert hb_w6; intro hb_w6; clear c_w4 cc_w4 fc_w4 d_w4 cd_w4 fd_w4 x_w4 cx_w4 fx_w4 y_w4 cy_w4 fy_w4)
    go_wp2_with fail
    (go_at_call 53; refine (HF.out _).mono ?_; rintro e w7 ⟨Tf, Gf, rfl, hOf, hGf, hb_w7⟩; refine have_then (P := w7.heap[w.heap.size]? = some (.cells #[.int .i64 c.sets, .int .i64 c.ways, .int .i64 c.doms, .int .i64 c.pad, .int .i64 c.quantum, .slice S.a0 c.slots.length S.n0, .slice S.a1 c.owners.length S.n1, .slice S.a2 c.chans.length S.n2, .slice S.a3 c.tasks.length S.n3] 63)) ((hb_w7.block _ byS).trans byH) (fun c_w7 => ?_); obtain ⟨cc_w7, fc_w7, zc_w7⟩ := blk c_w7; refine have_then (P := w7.heap[w.heap.size + 1]? = some (.cells #[.slice T.a0 d.jobs.length T.n0, .slice T.a1 d.released.length T.n1, .int .i64 d.next, .slice T.a2 d.ins.length T.n2, .slice T.a3 d.taken.length T.n3, .slice T.a4 d.outs.length T.n4, .slice T.a5 d.events.length T.n5] 90)) ((hb_w7.block _ byS).trans byH) (fun d_w7 => ?_); obtain ⟨cd_w7, fd_w7, zd_w7⟩ := blk d_w7; refine have_then (P := w7.heap[w1.heap.size]? = some (.cells #[.slice T1.a0 (freshOf c).jobs.length T1.n0, .slice T1.a1 (freshOf c).released.length T1.n1, .int .i64 (freshOf c).next, .slice T1.a2 (freshOf c).ins.length T1.n2, .slice T1.a3 (freshOf c).taken.length T1.n3, .slice T1.a4 (freshOf c).outs.length T1.n4, .slice T1.a5 (freshOf c).events.length T1.n5] 90)) ((hb_w7.block _ byS).trans byH) (fun x_w7 => ?_); obtain ⟨cx_w7, fx_w7, zx_w7⟩ := blk x_w7; refine have_then (P := w7.heap[w2.heap.size]? = some (.cells #[.slice T2.a0 noDom.jobs.length T2.n0, .slice T2.a1 noDom.released.length T2.n1, .int .i64 noDom.next, .slice T2.a2 noDom.ins.length T2.n2, .slice T2.a3 noDom.taken.length T2.n3, .slice T2.a4 noDom.outs.length T2.n4, .slice T2.a5 noDom.events.length T2.n5] 90)) ((hb_w7.block _ byS).trans byH) (fun y_w7 => ?_); obtain ⟨cy_w7, fy_w7, zy_w7⟩ := blk y_w7; refine have_then (P := w7.heap[w6.heap.size]? = some (.cells #[.slice none 0 0, .slice none 0 0, .int .i64 0, .slice none 0 0, .slice none 0 0, .slice none 0 0, .slice none 0 0] 90)) ((hb_w7.block _ byS).trans byH) (fun f_w7 => ?_); obtain ⟨cf_w7, ff_w7, zf_w7⟩ := blk f_w7; refine have_then (P := w7.heap[w6.heap.size + 1]? = some (.cells #[.slice none 0 0, .slice none 0 0, .int .i64 0, .slice none 0 0, .slice none 0 0, .slice none 0 0, .slice none 0 0] 90)) ((hb_w7.block _ byS).trans byH) (fun r_w7 => ?_); obtain ⟨cr_w7, fr_w7, zr_w7⟩ := blk r_w7; refine have_then (P := Below w.heap.size w w7) byB (fun h_w7 => ?_); have s_w7 := Below.size h_w7; have t_w7 := Below.size hb_w7; (try simp at t_w7); revert hb_w7; intro hb_w7; clear c_w6 cc_w6 fc_w6 d_w6 cd_w6 fd_w6 x_w6 cx_w6 fx_w6 y_w6 cy_w6 fy_w6)
    simp only [World.size_alloc] at hGf
    go_wp2_with fail
    obtain ⟨w7b, e7⟩ : ∃ X, X = (((((((w7.setCell ⟨w6.heap.size, 0, none⟩ (.slice Tf.a0 (freshOf c).jobs.length Tf.n0)).setCell ⟨w6.heap.size, 1, none⟩ (.slice Tf.a1 (freshOf c).released.length Tf.n1)).setCell ⟨w6.heap.size, 2, none⟩ (.int .i64 (freshOf c).next)).setCell ⟨w6.heap.size, 3, none⟩ (.slice Tf.a2 (freshOf c).ins.length Tf.n2)).setCell ⟨w6.heap.size, 4, none⟩ (.slice Tf.a3 (freshOf c).taken.length Tf.n3)).setCell ⟨w6.heap.size, 5, none⟩ (.slice Tf.a4 (freshOf c).outs.length Tf.n4)).setCell ⟨w6.heap.size, 6, none⟩ (.slice Tf.a5 (freshOf c).events.length Tf.n5)) := ⟨_, rfl⟩
    rw [← e7]
    have f_w7b : w7b.heap[w6.heap.size]? = some (.cells #[.slice Tf.a0 (freshOf c).jobs.length Tf.n0, .slice Tf.a1 (freshOf c).released.length Tf.n1, .int .i64 (freshOf c).next, .slice Tf.a2 (freshOf c).ins.length Tf.n2, .slice Tf.a3 (freshOf c).taken.length Tf.n3, .slice Tf.a4 (freshOf c).outs.length Tf.n4, .slice Tf.a5 (freshOf c).events.length Tf.n5] 90) := by rw [e7]; exact dom_set f_w7
    have r_w7b : w7b.heap[w6.heap.size + 1]? = some (.cells #[.slice none 0 0, .slice none 0 0, .int .i64 0, .slice none 0 0, .slice none 0 0, .slice none 0 0, .slice none 0 0] 90) := by rw [e7]; exact (dom_far (by omega)).trans r_w7
    have hb_w7b : Below w6.heap.size w6 w7b := by rw [e7]; exact dom_below byB (Nat.le_refl _)
    have z_w7b : w7b.heap.size = w7.heap.size := by rw [e7]; simp
    have k_w7b : ∀ b, b ≠ w6.heap.size → w7b.heap[b]? = w7.heap[b]? := fun b h => by rw [e7]; exact dom_far h
    clear e7
    have h_w7b : Below w.heap.size w w7b := h_w6.trans (hb_w7b.mono s_w6)
    revert hb_w7b; intro hb_w7b
    have s_w7b := Below.size h_w7b
    have t_w7b := Below.size hb_w7b
    replace hOf := hOf.keep (fun i b h => k_w7b b (by have := hGf i b h; omega)) (Nat.le_of_eq z_w7b.symm)
    have hf7b := hOf.read fun i b h => hOf.lt i b h
    have c_w7b := (k_w7b _ (Nat.ne_of_lt zc_w6)).trans c_w7
    have d_w7b := (k_w7b _ (Nat.ne_of_lt zd_w6)).trans d_w7
    have x_w7b := (k_w7b _ (Nat.ne_of_lt zx_w6)).trans x_w7
    have y_w7b := (k_w7b _ (Nat.ne_of_lt zy_w6)).trans y_w7
    obtain ⟨cc_w7b, fc_w7b, zc_w7b⟩ := blk c_w7b
    obtain ⟨cd_w7b, fd_w7b, zd_w7b⟩ := blk d_w7b
    obtain ⟨cx_w7b, fx_w7b, zx_w7b⟩ := blk x_w7b
    obtain ⟨cy_w7b, fy_w7b, zy_w7b⟩ := blk y_w7b
    obtain ⟨cf_w7b, ff_w7b, zf_w7b⟩ := blk f_w7b
    obtain ⟨cr_w7b, fr_w7b, zr_w7b⟩ := blk r_w7b
    go_wp2_with fail
    (go_at_call 58; refine (H0.out _).mono ?_; rintro e w10 ⟨rfl, hb_w10⟩; refine have_then (P := w10.heap[w.heap.size]? = some (.cells #[.int .i64 c.sets, .int .i64 c.ways, .int .i64 c.doms, .int .i64 c.pad, .int .i64 c.quantum, .slice S.a0 c.slots.length S.n0, .slice S.a1 c.owners.length S.n1, .slice S.a2 c.chans.length S.n2, .slice S.a3 c.tasks.length S.n3] 63)) ((hb_w10.block _ byS).trans byH) (fun c_w10 => ?_); obtain ⟨cc_w10, fc_w10, zc_w10⟩ := blk c_w10; refine have_then (P := w10.heap[w.heap.size + 1]? = some (.cells #[.slice T.a0 d.jobs.length T.n0, .slice T.a1 d.released.length T.n1, .int .i64 d.next, .slice T.a2 d.ins.length T.n2, .slice T.a3 d.taken.length T.n3, .slice T.a4 d.outs.length T.n4, .slice T.a5 d.events.length T.n5] 90)) ((hb_w10.block _ byS).trans byH) (fun d_w10 => ?_); obtain ⟨cd_w10, fd_w10, zd_w10⟩ := blk d_w10; refine have_then (P := w10.heap[w1.heap.size]? = some (.cells #[.slice T1.a0 (freshOf c).jobs.length T1.n0, .slice T1.a1 (freshOf c).released.length T1.n1, .int .i64 (freshOf c).next, .slice T1.a2 (freshOf c).ins.length T1.n2, .slice T1.a3 (freshOf c).taken.length T1.n3, .slice T1.a4 (freshOf c).outs.length T1.n4, .slice T1.a5 (freshOf c).events.length T1.n5] 90)) ((hb_w10.block _ byS).trans byH) (fun x_w10 => ?_); obtain ⟨cx_w10, fx_w10, zx_w10⟩ := blk x_w10; refine have_then (P := w10.heap[w2.heap.size]? = some (.cells #[.slice T2.a0 noDom.jobs.length T2.n0, .slice T2.a1 noDom.released.length T2.n1, .int .i64 noDom.next, .slice T2.a2 noDom.ins.length T2.n2, .slice T2.a3 noDom.taken.length T2.n3, .slice T2.a4 noDom.outs.length T2.n4, .slice T2.a5 noDom.events.length T2.n5] 90)) ((hb_w10.block _ byS).trans byH) (fun y_w10 => ?_); obtain ⟨cy_w10, fy_w10, zy_w10⟩ := blk y_w10; refine have_then (P := w10.heap[w6.heap.size]? = some (.cells #[.slice Tf.a0 (freshOf c).jobs.length Tf.n0, .slice Tf.a1 (freshOf c).released.length Tf.n1, .int .i64 (freshOf c).next, .slice Tf.a2 (freshOf c).ins.length Tf.n2, .slice Tf.a3 (freshOf c).taken.length Tf.n3, .slice Tf.a4 (freshOf c).outs.length Tf.n4, .slice Tf.a5 (freshOf c).events.length Tf.n5] 90)) ((hb_w10.block _ byS).trans byH) (fun f_w10 => ?_); obtain ⟨cf_w10, ff_w10, zf_w10⟩ := blk f_w10; refine have_then (P := w10.heap[w6.heap.size + 1]? = some (.cells #[.slice none 0 0, .slice none 0 0, .int .i64 0, .slice none 0 0, .slice none 0 0, .slice none 0 0, .slice none 0 0] 90)) ((hb_w10.block _ byS).trans byH) (fun r_w10 => ?_); obtain ⟨cr_w10, fr_w10, zr_w10⟩ := blk r_w10; refine have_then (P := Below w.heap.size w w10) byB (fun h_w10 => ?_); have s_w10 := Below.size h_w10; have t_w10 := Below.size hb_w10; (try simp at t_w10); revert hb_w10; intro hb_w10; clear c_w7 cc_w7 fc_w7 d_w7 cd_w7 fd_w7 x_w7 cx_w7 fx_w7 y_w7 cy_w7 fy_w7 f_w7 cf_w7 ff_w7 r_w7 cr_w7 fr_w7)
    go_wp2_with fail
    (go_at_call 59; refine (HDX.out _ _ _ ((hx1.next (Nat.le_refl _) byB).up byS) ((hf7b.next (Nat.le_refl _) byB).up byS)).mono ?_; rintro e w11 ⟨rfl, hb_w11⟩; refine have_then (P := w11.heap[w.heap.size]? = some (.cells #[.int .i64 c.sets, .int .i64 c.ways, .int .i64 c.doms, .int .i64 c.pad, .int .i64 c.quantum, .slice S.a0 c.slots.length S.n0, .slice S.a1 c.owners.length S.n1, .slice S.a2 c.chans.length S.n2, .slice S.a3 c.tasks.length S.n3] 63)) ((hb_w11.block _ byS).trans byH) (fun c_w11 => ?_); obtain ⟨cc_w11, fc_w11, zc_w11⟩ := blk c_w11; refine have_then (P := w11.heap[w.heap.size + 1]? = some (.cells #[.slice T.a0 d.jobs.length T.n0, .slice T.a1 d.released.length T.n1, .int .i64 d.next, .slice T.a2 d.ins.length T.n2, .slice T.a3 d.taken.length T.n3, .slice T.a4 d.outs.length T.n4, .slice T.a5 d.events.length T.n5] 90)) ((hb_w11.block _ byS).trans byH) (fun d_w11 => ?_); obtain ⟨cd_w11, fd_w11, zd_w11⟩ := blk d_w11; refine have_then (P := w11.heap[w1.heap.size]? = some (.cells #[.slice T1.a0 (freshOf c).jobs.length T1.n0, .slice T1.a1 (freshOf c).released.length T1.n1, .int .i64 (freshOf c).next, .slice T1.a2 (freshOf c).ins.length T1.n2, .slice T1.a3 (freshOf c).taken.length T1.n3, .slice T1.a4 (freshOf c).outs.length T1.n4, .slice T1.a5 (freshOf c).events.length T1.n5] 90)) ((hb_w11.block _ byS).trans byH) (fun x_w11 => ?_); obtain ⟨cx_w11, fx_w11, zx_w11⟩ := blk x_w11; refine have_then (P := w11.heap[w2.heap.size]? = some (.cells #[.slice T2.a0 noDom.jobs.length T2.n0, .slice T2.a1 noDom.released.length T2.n1, .int .i64 noDom.next, .slice T2.a2 noDom.ins.length T2.n2, .slice T2.a3 noDom.taken.length T2.n3, .slice T2.a4 noDom.outs.length T2.n4, .slice T2.a5 noDom.events.length T2.n5] 90)) ((hb_w11.block _ byS).trans byH) (fun y_w11 => ?_); obtain ⟨cy_w11, fy_w11, zy_w11⟩ := blk y_w11; refine have_then (P := w11.heap[w6.heap.size]? = some (.cells #[.slice Tf.a0 (freshOf c).jobs.length Tf.n0, .slice Tf.a1 (freshOf c).released.length Tf.n1, .int .i64 (freshOf c).next, .slice Tf.a2 (freshOf c).ins.length Tf.n2, .slice Tf.a3 (freshOf c).taken.length Tf.n3, .slice Tf.a4 (freshOf c).outs.length Tf.n4, .slice Tf.a5 (freshOf c).events.length Tf.n5] 90)) ((hb_w11.block _ byS).trans byH) (fun f_w11 => ?_); obtain ⟨cf_w11, ff_w11, zf_w11⟩ := blk f_w11; refine have_then (P := w11.heap[w6.heap.size + 1]? = some (.cells #[.slice none 0 0, .slice none 0 0, .int .i64 0, .slice none 0 0, .slice none 0 0, .slice none 0 0, .slice none 0 0] 90)) ((hb_w11.block _ byS).trans byH) (fun r_w11 => ?_); obtain ⟨cr_w11, fr_w11, zr_w11⟩ := blk r_w11; refine have_then (P := Below w.heap.size w w11) byB (fun h_w11 => ?_); have s_w11 := Below.size h_w11; have t_w11 := Below.size hb_w11; (try simp at t_w11); revert hb_w11; intro hb_w11; clear c_w10 cc_w10 fc_w10 d_w10 cd_w10 fd_w10 x_w10 cx_w10 fx_w10 y_w10 cy_w10 fy_w10 f_w10 cf_w10 ff_w10 r_w10 cr_w10 fr_w10)
    go_wp2_with fail
    (go_at_call 60; refine (H5.out _ byB).mono ?_; rintro e w12 ⟨rfl, hb_w12⟩; refine have_then (P := w12.heap[w.heap.size]? = some (.cells #[.int .i64 c.sets, .int .i64 c.ways, .int .i64 c.doms, .int .i64 c.pad, .int .i64 c.quantum, .slice S.a0 c.slots.length S.n0, .slice S.a1 c.owners.length S.n1, .slice S.a2 c.chans.length S.n2, .slice S.a3 c.tasks.length S.n3] 63)) ((hb_w12.block _ byS).trans byH) (fun c_w12 => ?_); obtain ⟨cc_w12, fc_w12, zc_w12⟩ := blk c_w12; refine have_then (P := w12.heap[w.heap.size + 1]? = some (.cells #[.slice T.a0 d.jobs.length T.n0, .slice T.a1 d.released.length T.n1, .int .i64 d.next, .slice T.a2 d.ins.length T.n2, .slice T.a3 d.taken.length T.n3, .slice T.a4 d.outs.length T.n4, .slice T.a5 d.events.length T.n5] 90)) ((hb_w12.block _ byS).trans byH) (fun d_w12 => ?_); obtain ⟨cd_w12, fd_w12, zd_w12⟩ := blk d_w12; refine have_then (P := w12.heap[w1.heap.size]? = some (.cells #[.slice T1.a0 (freshOf c).jobs.length T1.n0, .slice T1.a1 (freshOf c).released.length T1.n1, .int .i64 (freshOf c).next, .slice T1.a2 (freshOf c).ins.length T1.n2, .slice T1.a3 (freshOf c).taken.length T1.n3, .slice T1.a4 (freshOf c).outs.length T1.n4, .slice T1.a5 (freshOf c).events.length T1.n5] 90)) ((hb_w12.block _ byS).trans byH) (fun x_w12 => ?_); obtain ⟨cx_w12, fx_w12, zx_w12⟩ := blk x_w12; refine have_then (P := w12.heap[w2.heap.size]? = some (.cells #[.slice T2.a0 noDom.jobs.length T2.n0, .slice T2.a1 noDom.released.length T2.n1, .int .i64 noDom.next, .slice T2.a2 noDom.ins.length T2.n2, .slice T2.a3 noDom.taken.length T2.n3, .slice T2.a4 noDom.outs.length T2.n4, .slice T2.a5 noDom.events.length T2.n5] 90)) ((hb_w12.block _ byS).trans byH) (fun y_w12 => ?_); obtain ⟨cy_w12, fy_w12, zy_w12⟩ := blk y_w12; refine have_then (P := w12.heap[w6.heap.size]? = some (.cells #[.slice Tf.a0 (freshOf c).jobs.length Tf.n0, .slice Tf.a1 (freshOf c).released.length Tf.n1, .int .i64 (freshOf c).next, .slice Tf.a2 (freshOf c).ins.length Tf.n2, .slice Tf.a3 (freshOf c).taken.length Tf.n3, .slice Tf.a4 (freshOf c).outs.length Tf.n4, .slice Tf.a5 (freshOf c).events.length Tf.n5] 90)) ((hb_w12.block _ byS).trans byH) (fun f_w12 => ?_); obtain ⟨cf_w12, ff_w12, zf_w12⟩ := blk f_w12; refine have_then (P := w12.heap[w6.heap.size + 1]? = some (.cells #[.slice none 0 0, .slice none 0 0, .int .i64 0, .slice none 0 0, .slice none 0 0, .slice none 0 0, .slice none 0 0] 90)) ((hb_w12.block _ byS).trans byH) (fun r_w12 => ?_); obtain ⟨cr_w12, fr_w12, zr_w12⟩ := blk r_w12; refine have_then (P := Below w.heap.size w w12) byB (fun h_w12 => ?_); have s_w12 := Below.size h_w12; have t_w12 := Below.size hb_w12; (try simp at t_w12); revert hb_w12; intro hb_w12; clear c_w11 cc_w11 fc_w11 d_w11 cd_w11 fd_w11 x_w11 cx_w11 fx_w11 y_w11 cy_w11 fy_w11 f_w11 cf_w11 ff_w11 r_w11 cr_w11 fr_w11)
    go_wp2_with fail
    (go_at_call 59; refine (HDN.out _ _ _ ((hy2.next (Nat.le_refl _) byB).up byS)).mono ?_; rintro e w13 ⟨rfl, hb_w13⟩; refine have_then (P := w13.heap[w.heap.size]? = some (.cells #[.int .i64 c.sets, .int .i64 c.ways, .int .i64 c.doms, .int .i64 c.pad, .int .i64 c.quantum, .slice S.a0 c.slots.length S.n0, .slice S.a1 c.owners.length S.n1, .slice S.a2 c.chans.length S.n2, .slice S.a3 c.tasks.length S.n3] 63)) ((hb_w13.block _ byS).trans byH) (fun c_w13 => ?_); obtain ⟨cc_w13, fc_w13, zc_w13⟩ := blk c_w13; refine have_then (P := w13.heap[w.heap.size + 1]? = some (.cells #[.slice T.a0 d.jobs.length T.n0, .slice T.a1 d.released.length T.n1, .int .i64 d.next, .slice T.a2 d.ins.length T.n2, .slice T.a3 d.taken.length T.n3, .slice T.a4 d.outs.length T.n4, .slice T.a5 d.events.length T.n5] 90)) ((hb_w13.block _ byS).trans byH) (fun d_w13 => ?_); obtain ⟨cd_w13, fd_w13, zd_w13⟩ := blk d_w13; refine have_then (P := w13.heap[w1.heap.size]? = some (.cells #[.slice T1.a0 (freshOf c).jobs.length T1.n0, .slice T1.a1 (freshOf c).released.length T1.n1, .int .i64 (freshOf c).next, .slice T1.a2 (freshOf c).ins.length T1.n2, .slice T1.a3 (freshOf c).taken.length T1.n3, .slice T1.a4 (freshOf c).outs.length T1.n4, .slice T1.a5 (freshOf c).events.length T1.n5] 90)) ((hb_w13.block _ byS).trans byH) (fun x_w13 => ?_); obtain ⟨cx_w13, fx_w13, zx_w13⟩ := blk x_w13; refine have_then (P := w13.heap[w2.heap.size]? = some (.cells #[.slice T2.a0 noDom.jobs.length T2.n0, .slice T2.a1 noDom.released.length T2.n1, .int .i64 noDom.next, .slice T2.a2 noDom.ins.length T2.n2, .slice T2.a3 noDom.taken.length T2.n3, .slice T2.a4 noDom.outs.length T2.n4, .slice T2.a5 noDom.events.length T2.n5] 90)) ((hb_w13.block _ byS).trans byH) (fun y_w13 => ?_); obtain ⟨cy_w13, fy_w13, zy_w13⟩ := blk y_w13; refine have_then (P := w13.heap[w6.heap.size]? = some (.cells #[.slice Tf.a0 (freshOf c).jobs.length Tf.n0, .slice Tf.a1 (freshOf c).released.length Tf.n1, .int .i64 (freshOf c).next, .slice Tf.a2 (freshOf c).ins.length Tf.n2, .slice Tf.a3 (freshOf c).taken.length Tf.n3, .slice Tf.a4 (freshOf c).outs.length Tf.n4, .slice Tf.a5 (freshOf c).events.length Tf.n5] 90)) ((hb_w13.block _ byS).trans byH) (fun f_w13 => ?_); obtain ⟨cf_w13, ff_w13, zf_w13⟩ := blk f_w13; refine have_then (P := w13.heap[w6.heap.size + 1]? = some (.cells #[.slice none 0 0, .slice none 0 0, .int .i64 0, .slice none 0 0, .slice none 0 0, .slice none 0 0, .slice none 0 0] 90)) ((hb_w13.block _ byS).trans byH) (fun r_w13 => ?_); obtain ⟨cr_w13, fr_w13, zr_w13⟩ := blk r_w13; refine have_then (P := Below w.heap.size w w13) byB (fun h_w13 => ?_); have s_w13 := Below.size h_w13; have t_w13 := Below.size hb_w13; (try simp at t_w13); revert hb_w13; intro hb_w13; clear c_w12 cc_w12 fc_w12 d_w12 cd_w12 fd_w12 x_w12 cx_w12 fx_w12 y_w12 cy_w12 fy_w12 f_w12 cf_w12 ff_w12 r_w12 cr_w12 fr_w12)
    go_wp2_with fail
    go_ret
    exact ⟨ret_bool (by simp), byB⟩

theorem lawReadyTells_d1 (c : TCfg) (S : TCfgS) (dom : Int) (d : TDom) (T : TDomS) (now : Int) (hz : DomSz d) (hev : d.events.length + 40 ≤ 4398046511104) (B : Nat) (w : World) (hB : B ≤ w.heap.size) (hs : TCfg.At (Low B) w c S) (hd : TDom.At (Low B) w d T) (e1 : checkConfig c = 0) (e2 : isDom c.doms dom = true) (e3 : checkBoth c dom d = 0) (hn1 : now < 0) :
    Calls Try.prog 11 #[.agg #[.int .i64 c.sets, .int .i64 c.ways, .int .i64 c.doms, .int .i64 c.pad, .int .i64 c.quantum, .slice S.a0 c.slots.length S.n0, .slice S.a1 c.owners.length S.n1, .slice S.a2 c.chans.length S.n2, .slice S.a3 c.tasks.length S.n3], .int .i64 dom, .agg #[.slice T.a0 d.jobs.length T.n0, .slice T.a1 d.released.length T.n1, .int .i64 d.next, .slice T.a2 d.ins.length T.n2, .slice T.a3 d.taken.length T.n3, .slice T.a4 d.outs.length T.n4, .slice T.a5 d.events.length T.n5], .int .i64 now] w fun en w' => en = .returned (.bool true) ∧ Below w.heap.size w w' := by
  have HN := Lib.hid (fun W (h : Below w.heap.size w W) => readyNew c S dom B W (Nat.le_trans hB h.size) (hs.next hB h))
  have HL := Lib.hid (fun W (h : Below w.heap.size w W) => readyRelease c S dom d T now hz hev B W (Nat.le_trans hB h.size) (hs.next hB h) (hd.next hB h))
  have H3 := Lib.hid (fun W (h : Below w.heap.size w W) => readyPick c S dom d T hz B W (Nat.le_trans hB h.size) (hs.next hB h) (hd.next hB h))
  have H4 := Lib.hid (fun W (h : Below w.heap.size w W) => readyDue c S dom d T hz B W (Nat.le_trans hB h.size) (hs.next hB h) (hd.next hB h))
  have H5 := Lib.hid (fun W (h : Below w.heap.size w W) => readyCheck c S dom d T B W (Nat.le_trans hB h.size) (hs.next hB h) (hd.next hB h))
  have HA := Lib.hid (fun W (h : Below w.heap.size w W) => refCheckConfig c S B W (Nat.le_trans hB h.size) (hs.next hB h))
  have HB2 := Lib.hid (fun W (h : Below w.heap.size w W) => refCheckBoth c S dom d T B W (Nat.le_trans hB h.size) (hs.next hB h) (hd.next hB h))
  have H0 := Lib.hid lawReadyBegun
  have HDN := Lib.hid (fun E W T (h : TDom.At (Low W.heap.size) W noDom T) => lawDomainIs noDom T noDomS E (fun _ => rfl) W.heap.size W (Nat.le_refl _) h ((noDom_own W).read fun _ _ h => h.elim))
  have ok := checkConfig_ok e1
  have x1 : newErr c dom = 0 := by simp [newErr, e1, e2]
  have x2 : newOf c dom = freshOf c := by unfold newOf; rw [x1, if_pos rfl]
  rw [x1, x2] at HN
  rw [e1] at HA
  have HF := Lib.hid (fun W => refNewDomain c S ok W)
  have HDX := Lib.hid (fun W T1 T2 (h1 : TDom.At (Low W.heap.size) W (freshOf c) T1) (h2 : TDom.At (Low W.heap.size) W (freshOf c) T2) => lawDomainIs (freshOf c) T1 T2 0 (fun h => absurd rfl h) W.heap.size W (Nat.le_refl _) h1 h2)
  have y1 : relErr c dom d now = 3 := by simp [relErr, e3, inB]; omega
  have y2 : relOf c dom d now = noDom := by unfold relOf; rw [y1, if_neg (by decide)]
  rw [y1, y2] at HL
  obtain ⟨-, hk⟩ := checkBoth_ok e3
  have HP := Lib.hid (fun W (h : Below w.heap.size w W) => refPickOf c S dom d T ok hk B W (Nat.le_trans hB h.size) (hs.next hB h) (hd.next hB h))
  have HU := Lib.hid (fun W (h : Below w.heap.size w W) => refDueOf c S dom d T ok hk B W (Nat.le_trans hB h.size) (hs.next hB h) (hd.next hB h))
  simp only [e3, if_true] at H3 H4 H5 HB2
  have HX := Lib.hid (fun W => refIsDomain c S dom ok.doms.1 ok.doms.2 W)
  rw [e2] at HX
  have b4 : decide (now < 0) = true := by simpa using hn1
  clear x1 x2 y1 y2 e1 e2 e3 hz hev hs hd ok hk
  generalize bestOf c d.jobs = PKV at *
  generalize dueOf c dom d = DUV at *
  go_enter Try.func11, Try.ntmps11
  go_wp2_with fail
  (go_at_call 48; refine (HN.out _ byB).mono ?_; rintro e w1 ⟨T1, G1, rfl, hO1, hG1, hb_w1⟩; refine have_then (P := w1.heap[w.heap.size]? = some (.cells #[.int .i64 c.sets, .int .i64 c.ways, .int .i64 c.doms, .int .i64 c.pad, .int .i64 c.quantum, .slice S.a0 c.slots.length S.n0, .slice S.a1 c.owners.length S.n1, .slice S.a2 c.chans.length S.n2, .slice S.a3 c.tasks.length S.n3] 63)) ((hb_w1.block _ byS).trans byH) (fun c_w1 => ?_); obtain ⟨cc_w1, fc_w1, zc_w1⟩ := blk c_w1; refine have_then (P := w1.heap[w.heap.size + 1]? = some (.cells #[.slice T.a0 d.jobs.length T.n0, .slice T.a1 d.released.length T.n1, .int .i64 d.next, .slice T.a2 d.ins.length T.n2, .slice T.a3 d.taken.length T.n3, .slice T.a4 d.outs.length T.n4, .slice T.a5 d.events.length T.n5] 90)) ((hb_w1.block _ byS).trans byH) (fun d_w1 => ?_); obtain ⟨cd_w1, fd_w1, zd_w1⟩ := blk d_w1; refine have_then (P := Below w.heap.size w w1) byB (fun h_w1 => ?_); have s_w1 := Below.size h_w1; have t_w1 := Below.size hb_w1; (try simp at t_w1); revert hb_w1; intro hb_w1)
  have hx1 := hO1.read fun i b hb => hO1.lt i b hb
  clear hO1 hG1
  go_wp2_with fail
  (go_at_call 49; refine (HL.out _ byB).mono ?_; rintro e w2 ⟨T2, G2, rfl, hO2, hG2, hb_w2⟩; refine have_then (P := w2.heap[w.heap.size]? = some (.cells #[.int .i64 c.sets, .int .i64 c.ways, .int .i64 c.doms, .int .i64 c.pad, .int .i64 c.quantum, .slice S.a0 c.slots.length S.n0, .slice S.a1 c.owners.length S.n1, .slice S.a2 c.chans.length S.n2, .slice S.a3 c.tasks.length S.n3] 63)) ((hb_w2.block _ byS).trans byH) (fun c_w2 => ?_); obtain ⟨cc_w2, fc_w2, zc_w2⟩ := blk c_w2; refine have_then (P := w2.heap[w.heap.size + 1]? = some (.cells #[.slice T.a0 d.jobs.length T.n0, .slice T.a1 d.released.length T.n1, .int .i64 d.next, .slice T.a2 d.ins.length T.n2, .slice T.a3 d.taken.length T.n3, .slice T.a4 d.outs.length T.n4, .slice T.a5 d.events.length T.n5] 90)) ((hb_w2.block _ byS).trans byH) (fun d_w2 => ?_); obtain ⟨cd_w2, fd_w2, zd_w2⟩ := blk d_w2; refine have_then (P := w2.heap[w1.heap.size]? = some (.cells #[.slice T1.a0 (freshOf c).jobs.length T1.n0, .slice T1.a1 (freshOf c).released.length T1.n1, .int .i64 (freshOf c).next, .slice T1.a2 (freshOf c).ins.length T1.n2, .slice T1.a3 (freshOf c).taken.length T1.n3, .slice T1.a4 (freshOf c).outs.length T1.n4, .slice T1.a5 (freshOf c).events.length T1.n5] 90)) ((hb_w2.block _ byS).trans byH) (fun x_w2 => ?_); obtain ⟨cx_w2, fx_w2, zx_w2⟩ := blk x_w2; refine have_then (P := Below w.heap.size w w2) byB (fun h_w2 => ?_); have s_w2 := Below.size h_w2; have t_w2 := Below.size hb_w2; (try simp at t_w2); revert hb_w2; intro hb_w2; clear c_w1 cc_w1 fc_w1 d_w1 cd_w1 fd_w1)
  have hy2 := hO2.read fun i b hb => hO2.lt i b hb
  clear hO2 hG2
  go_wp2_with fail
  (go_at_call 50; refine (H3.out _ byB).mono ?_; rintro e w3 ⟨rfl, hb_w3⟩; refine have_then (P := w3.heap[w.heap.size]? = some (.cells #[.int .i64 c.sets, .int .i64 c.ways, .int .i64 c.doms, .int .i64 c.pad, .int .i64 c.quantum, .slice S.a0 c.slots.length S.n0, .slice S.a1 c.owners.length S.n1, .slice S.a2 c.chans.length S.n2, .slice S.a3 c.tasks.length S.n3] 63)) ((hb_w3.block _ byS).trans byH) (fun c_w3 => ?_); obtain ⟨cc_w3, fc_w3, zc_w3⟩ := blk c_w3; refine have_then (P := w3.heap[w.heap.size + 1]? = some (.cells #[.slice T.a0 d.jobs.length T.n0, .slice T.a1 d.released.length T.n1, .int .i64 d.next, .slice T.a2 d.ins.length T.n2, .slice T.a3 d.taken.length T.n3, .slice T.a4 d.outs.length T.n4, .slice T.a5 d.events.length T.n5] 90)) ((hb_w3.block _ byS).trans byH) (fun d_w3 => ?_); obtain ⟨cd_w3, fd_w3, zd_w3⟩ := blk d_w3; refine have_then (P := w3.heap[w1.heap.size]? = some (.cells #[.slice T1.a0 (freshOf c).jobs.length T1.n0, .slice T1.a1 (freshOf c).released.length T1.n1, .int .i64 (freshOf c).next, .slice T1.a2 (freshOf c).ins.length T1.n2, .slice T1.a3 (freshOf c).taken.length T1.n3, .slice T1.a4 (freshOf c).outs.length T1.n4, .slice T1.a5 (freshOf c).events.length T1.n5] 90)) ((hb_w3.block _ byS).trans byH) (fun x_w3 => ?_); obtain ⟨cx_w3, fx_w3, zx_w3⟩ := blk x_w3; refine have_then (P := w3.heap[w2.heap.size]? = some (.cells #[.slice T2.a0 noDom.jobs.length T2.n0, .slice T2.a1 noDom.released.length T2.n1, .int .i64 noDom.next, .slice T2.a2 noDom.ins.length T2.n2, .slice T2.a3 noDom.taken.length T2.n3, .slice T2.a4 noDom.outs.length T2.n4, .slice T2.a5 noDom.events.length T2.n5] 90)) ((hb_w3.block _ byS).trans byH) (fun y_w3 => ?_); obtain ⟨cy_w3, fy_w3, zy_w3⟩ := blk y_w3; refine have_then (P := Below w.heap.size w w3) byB (fun h_w3 => ?_); have s_w3 := Below.size h_w3; have t_w3 := Below.size hb_w3; (try simp at t_w3); revert hb_w3; intro hb_w3; clear c_w2 cc_w2 fc_w2 d_w2 cd_w2 fd_w2 x_w2 cx_w2 fx_w2)
  go_wp2_with fail
  (go_at_call 51; refine (H4.out _ byB).mono ?_; rintro e w4 ⟨rfl, hb_w4⟩; refine have_then (P := w4.heap[w.heap.size]? = some (.cells #[.int .i64 c.sets, .int .i64 c.ways, .int .i64 c.doms, .int .i64 c.pad, .int .i64 c.quantum, .slice S.a0 c.slots.length S.n0, .slice S.a1 c.owners.length S.n1, .slice S.a2 c.chans.length S.n2, .slice S.a3 c.tasks.length S.n3] 63)) ((hb_w4.block _ byS).trans byH) (fun c_w4 => ?_); obtain ⟨cc_w4, fc_w4, zc_w4⟩ := blk c_w4; refine have_then (P := w4.heap[w.heap.size + 1]? = some (.cells #[.slice T.a0 d.jobs.length T.n0, .slice T.a1 d.released.length T.n1, .int .i64 d.next, .slice T.a2 d.ins.length T.n2, .slice T.a3 d.taken.length T.n3, .slice T.a4 d.outs.length T.n4, .slice T.a5 d.events.length T.n5] 90)) ((hb_w4.block _ byS).trans byH) (fun d_w4 => ?_); obtain ⟨cd_w4, fd_w4, zd_w4⟩ := blk d_w4; refine have_then (P := w4.heap[w1.heap.size]? = some (.cells #[.slice T1.a0 (freshOf c).jobs.length T1.n0, .slice T1.a1 (freshOf c).released.length T1.n1, .int .i64 (freshOf c).next, .slice T1.a2 (freshOf c).ins.length T1.n2, .slice T1.a3 (freshOf c).taken.length T1.n3, .slice T1.a4 (freshOf c).outs.length T1.n4, .slice T1.a5 (freshOf c).events.length T1.n5] 90)) ((hb_w4.block _ byS).trans byH) (fun x_w4 => ?_); obtain ⟨cx_w4, fx_w4, zx_w4⟩ := blk x_w4; refine have_then (P := w4.heap[w2.heap.size]? = some (.cells #[.slice T2.a0 noDom.jobs.length T2.n0, .slice T2.a1 noDom.released.length T2.n1, .int .i64 noDom.next, .slice T2.a2 noDom.ins.length T2.n2, .slice T2.a3 noDom.taken.length T2.n3, .slice T2.a4 noDom.outs.length T2.n4, .slice T2.a5 noDom.events.length T2.n5] 90)) ((hb_w4.block _ byS).trans byH) (fun y_w4 => ?_); obtain ⟨cy_w4, fy_w4, zy_w4⟩ := blk y_w4; refine have_then (P := Below w.heap.size w w4) byB (fun h_w4 => ?_); have s_w4 := Below.size h_w4; have t_w4 := Below.size hb_w4; (try simp at t_w4); revert hb_w4; intro hb_w4; clear c_w3 cc_w3 fc_w3 d_w3 cd_w3 fd_w3 x_w3 cx_w3 fx_w3 y_w3 cy_w3 fy_w3)
  go_wp2_with fail
  refine wp_region_inv [52, 53, 54, 55, 56, 57, 17, 18] (fun l f W => (Below w4.heap.size w4 W ∧ l.size = 8) ∧ Fa l 0 (f 52 = .agg #[.int .i64 c.sets, .int .i64 c.ways, .int .i64 c.doms, .int .i64 c.pad, .int .i64 c.quantum, .slice S.a0 c.slots.length S.n0, .slice S.a1 c.owners.length S.n1, .slice S.a2 c.chans.length S.n2, .slice S.a3 c.tasks.length S.n3]) ∧ Fa l 1 (f 53 = .int .i64 0) ∧ Fa l 2 (f 54 = .agg #[.int .i64 c.sets, .int .i64 c.ways, .int .i64 c.doms, .int .i64 c.pad, .int .i64 c.quantum, .slice S.a0 c.slots.length S.n0, .slice S.a1 c.owners.length S.n1, .slice S.a2 c.chans.length S.n2, .slice S.a3 c.tasks.length S.n3]) ∧ Fa l 3 (f 55 = .int .i64 dom) ∧ Fa l 4 (f 56 = .agg #[.slice T.a0 d.jobs.length T.n0, .slice T.a1 d.released.length T.n1, .int .i64 d.next, .slice T.a2 d.ins.length T.n2, .slice T.a3 d.taken.length T.n3, .slice T.a4 d.outs.length T.n4, .slice T.a5 d.events.length T.n5]) ∧ Fa l 5 (f 57 = .int .i64 0) ∧ Fa l 6 (f 17 = .int .i64 0) ∧ Fa l 7 (f 18 = .int .i64 0)) (by kernel_rfl) (by decide) (by kernel_rfl) (by intro s hs; simp at hs ⊢; omega) ?_ ?_ ?_
  · intro l hz hl
    exact ⟨⟨(Below.refl _ _).drew, hz⟩, .no (hl 0), .no (hl 1), .no (hl 2), .no (hl 3), .no (hl 4), .no (hl 5), .no (hl 6), .no (hl 7)⟩
  · refine StepsL.cons 1 [] rfl (by kernel_rfl) rfl (by intro d hd; injection hd with hd; subst hd; decide) (fun l f W hR hn hb K Q2 hK => ?_) ?_
    · obtain ⟨hS, h0, h1, h2, h3, h4, h5, h6, h7⟩ := hR
      replace hb := Lib.hid hb
      refine ⟨?_⟩
      simp only [putF, Act.put, List.setIfInBounds_toArray, List.set_cons_zero, List.set_cons_succ] at hK ⊢
      replace hK := Lib.hid hK
      obtain ⟨cX, fX, zX⟩ := blk ((hS.1.block _ (blk c_w4).2.2).trans c_w4)
      go_simp
      refine hK.out.out _ _ ⟨⟨hS.1, by simpa using hS.2⟩, ⟨fun _ => rfl⟩, h1.k, h2.k, h3.k, h4.k, h5.k, h6.k, h7.k⟩
    refine StepsL.cons 2 [0] rfl (by kernel_rfl) rfl (by intro d hd; injection hd with hd; subst hd; decide) (fun l f W hR hn hb K Q2 hK => ?_) ?_
    · obtain ⟨hS, h0, h1, h2, h3, h4, h5, h6, h7⟩ := hR
      have q0 := h0.out (hb 0 (by simp))
      replace hb := Lib.hid hb
      refine ⟨?_⟩
      simp only [putF, Act.put, List.setIfInBounds_toArray, List.set_cons_zero, List.set_cons_succ] at hK ⊢
      (try simp only [q0] at hK)
      replace hK := Lib.hid hK
      have HC := HA.out W (h_w4.trans (hS.1.mono s_w4))
      go_simp
      go_at_call 35
      refine HC.mono ?_
      clear HC
      rintro e w3 ⟨rfl, hb3⟩
      try dsimp only
      try simp only [Act.put, List.setIfInBounds_toArray, List.set_cons_zero, List.set_cons_succ]
      refine hK.out.out _ _ ⟨⟨hS.1.trans (hb3.mono hS.1.size), by simpa using hS.2⟩, h0.k, ⟨fun _ => rfl⟩, h2.k, h3.k, h4.k, h5.k, h6.k, h7.k⟩
    refine StepsL.cons 3 [] rfl (by kernel_rfl) rfl (by intro d hd; injection hd with hd; subst hd; decide) (fun l f W hR hn hb K Q2 hK => ?_) ?_
    · obtain ⟨hS, h0, h1, h2, h3, h4, h5, h6, h7⟩ := hR
      replace hb := Lib.hid hb
      refine ⟨?_⟩
      simp only [putF, Act.put, List.setIfInBounds_toArray, List.set_cons_zero, List.set_cons_succ] at hK ⊢
      replace hK := Lib.hid hK
      obtain ⟨cX, fX, zX⟩ := blk ((hS.1.block _ (blk c_w4).2.2).trans c_w4)
      go_simp
      refine hK.out.out _ _ ⟨⟨hS.1, by simpa using hS.2⟩, h0.k, h1.k, ⟨fun _ => rfl⟩, h3.k, h4.k, h5.k, h6.k, h7.k⟩
    refine StepsL.cons 4 [] rfl (by kernel_rfl) rfl (by intro d hd; injection hd with hd; subst hd; decide) (fun l f W hR hn hb K Q2 hK => ?_) ?_
    · obtain ⟨hS, h0, h1, h2, h3, h4, h5, h6, h7⟩ := hR
      replace hb := Lib.hid hb
      refine ⟨?_⟩
      simp only [putF, Act.put, List.setIfInBounds_toArray, List.set_cons_zero, List.set_cons_succ] at hK ⊢
      replace hK := Lib.hid hK
      go_simp
      refine hK.out.out _ _ ⟨⟨hS.1, by simpa using hS.2⟩, h0.k, h1.k, h2.k, ⟨fun _ => rfl⟩, h4.k, h5.k, h6.k, h7.k⟩
    refine StepsL.cons 5 [] rfl (by kernel_rfl) rfl (by intro d hd; injection hd with hd; subst hd; decide) (fun l f W hR hn hb K Q2 hK => ?_) ?_
    · obtain ⟨hS, h0, h1, h2, h3, h4, h5, h6, h7⟩ := hR
      replace hb := Lib.hid hb
      refine ⟨?_⟩
      simp only [putF, Act.put, List.setIfInBounds_toArray, List.set_cons_zero, List.set_cons_succ] at hK ⊢
      replace hK := Lib.hid hK
      obtain ⟨cX, fX, zX⟩ := blk ((hS.1.block _ (blk d_w4).2.2).trans d_w4)
      go_simp
      refine hK.out.out _ _ ⟨⟨hS.1, by simpa using hS.2⟩, h0.k, h1.k, h2.k, h3.k, ⟨fun _ => rfl⟩, h5.k, h6.k, h7.k⟩
    refine StepsL.cons 6 [2, 3, 4, 1] rfl (by kernel_rfl) rfl (by intro d hd; injection hd with hd; subst hd; decide) (fun l f W hR hn hb K Q2 hK => ?_) ?_
    · obtain ⟨hS, h0, h1, h2, h3, h4, h5, h6, h7⟩ := hR
      have q1 := h1.out (hb 1 (by simp))
      have q2 := h2.out (hb 2 (by simp))
      have q3 := h3.out (hb 3 (by simp))
      have q4 := h4.out (hb 4 (by simp))
      replace hb := Lib.hid hb
      refine ⟨?_⟩
      simp only [putF, Act.put, List.setIfInBounds_toArray, List.set_cons_zero, List.set_cons_succ] at hK ⊢
      (try simp only [q1, q2, q3, q4] at hK)
      replace hK := Lib.hid hK
      have HC := HB2.out W (h_w4.trans (hS.1.mono s_w4))
      go_simp
      go_at_call 52
      refine HC.mono ?_
      clear HC
      rintro e w3 ⟨rfl, hb3⟩
      try dsimp only
      try simp only [Act.put, List.setIfInBounds_toArray, List.set_cons_zero, List.set_cons_succ]
      refine hK.out.out _ _ ⟨⟨hS.1.trans (hb3.mono hS.1.size), by simpa using hS.2⟩, h0.k, h1.k, h2.k, h3.k, h4.k, ⟨fun _ => rfl⟩, h6.k, h7.k⟩
    refine StepsL.cons 7 [1, 5, 0, 1] rfl (by kernel_rfl) rfl (by intro d hd; injection hd with hd; subst hd; decide) (fun l f W hR hn hb K Q2 hK => ?_) ?_
    · obtain ⟨hS, h0, h1, h2, h3, h4, h5, h6, h7⟩ := hR
      have q0 := h0.out (hb 0 (by simp))
      have q1 := h1.out (hb 1 (by simp))
      have q5 := h5.out (hb 5 (by simp))
      replace hb := Lib.hid hb
      refine ⟨?_⟩
      simp only [putF, Act.put, List.setIfInBounds_toArray, List.set_cons_zero, List.set_cons_succ] at hK ⊢
      (try simp only [q0, q1, q5] at hK)
      replace hK := Lib.hid hK
      go_simp
      refine hK.out.out _ _ ⟨⟨hS.1, by simpa using hS.2⟩, h0.k, h1.k, h2.k, h3.k, h4.k, h5.k, ⟨fun _ => rfl⟩, h7.k⟩
    refine StepsL.cons 8 [5, 6, 0, 1, 2, 3, 4, 5, 6] rfl (by kernel_rfl) rfl (by intro d hd; injection hd with hd; subst hd; decide) (fun l f W hR hn hb K Q2 hK => ?_) ?_
    · obtain ⟨hS, h0, h1, h2, h3, h4, h5, h6, h7⟩ := hR
      have q0 := h0.out (hb 0 (by simp))
      have q1 := h1.out (hb 1 (by simp))
      have q2 := h2.out (hb 2 (by simp))
      have q3 := h3.out (hb 3 (by simp))
      have q4 := h4.out (hb 4 (by simp))
      have q5 := h5.out (hb 5 (by simp))
      have q6 := h6.out (hb 6 (by simp))
      replace hb := Lib.hid hb
      refine ⟨?_⟩
      simp only [putF, Act.put, List.setIfInBounds_toArray, List.set_cons_zero, List.set_cons_succ] at hK ⊢
      (try simp only [q0, q1, q2, q3, q4, q5, q6] at hK)
      replace hK := Lib.hid hK
      go_simp
      refine hK.out.out _ _ ⟨⟨hS.1, by simpa using hS.2⟩, h0.k, h1.k, h2.k, h3.k, h4.k, h5.k, h6.k, ⟨fun _ => rfl⟩⟩
    exact StepsL.nil
  · intro l f W hR hall
    obtain ⟨hS, h0, h1, h2, h3, h4, h5, h6, h7⟩ := hR
    have q0 := h0.out (hall 0 (by decide))
    have q1 := h1.out (hall 1 (by decide))
    have q2 := h2.out (hall 2 (by decide))
    have q3 := h3.out (hall 3 (by decide))
    have q4 := h4.out (hall 4 (by decide))
    have q5 := h5.out (hall 5 (by decide))
    have q6 := h6.out (hall 6 (by decide))
    have q7 := h7.out (hall 7 (by decide))
    clear h0 h1 h2 h3 h4 h5 h6 h7
    obtain ⟨w5, rfl⟩ : ∃ X, X = W := ⟨_, rfl⟩
    have hb_w5 : Below w4.heap.size w4 w5 := hS.1
    have h_w5 : Below w.heap.size w w5 := h_w4.trans (hb_w5.mono s_w4)
    revert hb_w5; intro hb_w5
    have s_w5 := Below.size h_w5
    have t_w5 := Below.size hb_w5
    have c_w5 := (hb_w5.block _ (blk c_w4).2.2).trans c_w4
    have d_w5 := (hb_w5.block _ (blk d_w4).2.2).trans d_w4
    have x_w5 := (hb_w5.block _ (blk x_w4).2.2).trans x_w4
    have y_w5 := (hb_w5.block _ (blk y_w4).2.2).trans y_w4
    obtain ⟨cc_w5, fc_w5, zc_w5⟩ := blk c_w5
    obtain ⟨cd_w5, fd_w5, zd_w5⟩ := blk d_w5
    obtain ⟨cx_w5, fx_w5, zx_w5⟩ := blk x_w5
    obtain ⟨cy_w5, fy_w5, zy_w5⟩ := blk y_w5
    simp only [putF, Act.put, List.setIfInBounds_toArray, List.set_cons_zero, List.set_cons_succ]
    simp only [q6, q7]
    clear q0 q1 q2 q3 q4 q5 q6 q7 hall hS
    go_wp2_with fail
    (go_at_call 36; refine (HX.out _).mono ?_; rintro e w6 ⟨rfl, hb_w6⟩; refine have_then (P := w6.heap[w.heap.size]? = some (.cells #[.int .i64 c.sets, .int .i64 c.ways, .int .i64 c.doms, .int .i64 c.pad, .int .i64 c.quantum, .slice S.a0 c.slots.length S.n0, .slice S.a1 c.owners.length S.n1, .slice S.a2 c.chans.length S.n2, .slice S.a3 c.tasks.length S.n3] 63)) ((hb_w6.block _ byS).trans byH) (fun c_w6 => ?_); obtain ⟨cc_w6, fc_w6, zc_w6⟩ := blk c_w6; refine have_then (P := w6.heap[w.heap.size + 1]? = some (.cells #[.slice T.a0 d.jobs.length T.n0, .slice T.a1 d.released.length T.n1, .int .i64 d.next, .slice T.a2 d.ins.length T.n2, .slice T.a3 d.taken.length T.n3, .slice T.a4 d.outs.length T.n4, .slice T.a5 d.events.length T.n5] 90)) ((hb_w6.block _ byS).trans byH) (fun d_w6 => ?_); obtain ⟨cd_w6, fd_w6, zd_w6⟩ := blk d_w6; refine have_then (P := w6.heap[w1.heap.size]? = some (.cells #[.slice T1.a0 (freshOf c).jobs.length T1.n0, .slice T1.a1 (freshOf c).released.length T1.n1, .int .i64 (freshOf c).next, .slice T1.a2 (freshOf c).ins.length T1.n2, .slice T1.a3 (freshOf c).taken.length T1.n3, .slice T1.a4 (freshOf c).outs.length T1.n4, .slice T1.a5 (freshOf c).events.length T1.n5] 90)) ((hb_w6.block _ byS).trans byH) (fun x_w6 => ?_); obtain ⟨cx_w6, fx_w6, zx_w6⟩ := blk x_w6; refine have_then (P := w6.heap[w2.heap.size]? = some (.cells #[.slice T2.a0 noDom.jobs.length T2.n0, .slice T2.a1 noDom.released.length T2.n1, .int .i64 noDom.next, .slice T2.a2 noDom.ins.length T2.n2, .slice T2.a3 noDom.taken.length T2.n3, .slice T2.a4 noDom.outs.length T2.n4, .slice T2.a5 noDom.events.length T2.n5] 90)) ((hb_w6.block _ byS).trans byH) (fun y_w6 => ?_); obtain ⟨cy_w6, fy_w6, zy_w6⟩ := blk y_w6; refine have_then (P := Below w.heap.size w w6) byB (fun h_w6 => ?_); have s_w6 := Below.size h_w6; have t_w6 := Below.size hb_w6; (try simp at t_w6); revert hb_w6; intro hb_w6; clear c_w4 cc_w4 fc_w4 d_w4 cd_w4 fd_w4 x_w4 cx_w4 fx_w4 y_w4 cy_w4 fy_w4)
    go_wp2_with fail
    (go_at_call 53; refine (HF.out _).mono ?_; rintro e w7 ⟨Tf, Gf, rfl, hOf, hGf, hb_w7⟩; refine have_then (P := w7.heap[w.heap.size]? = some (.cells #[.int .i64 c.sets, .int .i64 c.ways, .int .i64 c.doms, .int .i64 c.pad, .int .i64 c.quantum, .slice S.a0 c.slots.length S.n0, .slice S.a1 c.owners.length S.n1, .slice S.a2 c.chans.length S.n2, .slice S.a3 c.tasks.length S.n3] 63)) ((hb_w7.block _ byS).trans byH) (fun c_w7 => ?_); obtain ⟨cc_w7, fc_w7, zc_w7⟩ := blk c_w7; refine have_then (P := w7.heap[w.heap.size + 1]? = some (.cells #[.slice T.a0 d.jobs.length T.n0, .slice T.a1 d.released.length T.n1, .int .i64 d.next, .slice T.a2 d.ins.length T.n2, .slice T.a3 d.taken.length T.n3, .slice T.a4 d.outs.length T.n4, .slice T.a5 d.events.length T.n5] 90)) ((hb_w7.block _ byS).trans byH) (fun d_w7 => ?_); obtain ⟨cd_w7, fd_w7, zd_w7⟩ := blk d_w7; refine have_then (P := w7.heap[w1.heap.size]? = some (.cells #[.slice T1.a0 (freshOf c).jobs.length T1.n0, .slice T1.a1 (freshOf c).released.length T1.n1, .int .i64 (freshOf c).next, .slice T1.a2 (freshOf c).ins.length T1.n2, .slice T1.a3 (freshOf c).taken.length T1.n3, .slice T1.a4 (freshOf c).outs.length T1.n4, .slice T1.a5 (freshOf c).events.length T1.n5] 90)) ((hb_w7.block _ byS).trans byH) (fun x_w7 => ?_); obtain ⟨cx_w7, fx_w7, zx_w7⟩ := blk x_w7; refine have_then (P := w7.heap[w2.heap.size]? = some (.cells #[.slice T2.a0 noDom.jobs.length T2.n0, .slice T2.a1 noDom.released.length T2.n1, .int .i64 noDom.next, .slice T2.a2 noDom.ins.length T2.n2, .slice T2.a3 noDom.taken.length T2.n3, .slice T2.a4 noDom.outs.length T2.n4, .slice T2.a5 noDom.events.length T2.n5] 90)) ((hb_w7.block _ byS).trans byH) (fun y_w7 => ?_); obtain ⟨cy_w7, fy_w7, zy_w7⟩ := blk y_w7; refine have_then (P := w7.heap[w6.heap.size]? = some (.cells #[.slice none 0 0, .slice none 0 0, .int .i64 0, .slice none 0 0, .slice none 0 0, .slice none 0 0, .slice none 0 0] 90)) ((hb_w7.block _ byS).trans byH) (fun f_w7 => ?_); obtain ⟨cf_w7, ff_w7, zf_w7⟩ := blk f_w7; refine have_then (P := w7.heap[w6.heap.size + 1]? = some (.cells #[.slice none 0 0, .slice none 0 0, .int .i64 0, .slice none 0 0, .slice none 0 0, .slice none 0 0, .slice none 0 0] 90)) ((hb_w7.block _ byS).trans byH) (fun r_w7 => ?_); obtain ⟨cr_w7, fr_w7, zr_w7⟩ := blk r_w7; refine have_then (P := Below w.heap.size w w7) byB (fun h_w7 => ?_); have s_w7 := Below.size h_w7; have t_w7 := Below.size hb_w7; (try simp at t_w7); revert hb_w7; intro hb_w7; clear c_w6 cc_w6 fc_w6 d_w6 cd_w6 fd_w6 x_w6 cx_w6 fx_w6 y_w6 cy_w6 fy_w6)
    simp only [World.size_alloc] at hGf
    go_wp2_with fail
    obtain ⟨w7b, e7⟩ : ∃ X, X = (((((((w7.setCell ⟨w6.heap.size, 0, none⟩ (.slice Tf.a0 (freshOf c).jobs.length Tf.n0)).setCell ⟨w6.heap.size, 1, none⟩ (.slice Tf.a1 (freshOf c).released.length Tf.n1)).setCell ⟨w6.heap.size, 2, none⟩ (.int .i64 (freshOf c).next)).setCell ⟨w6.heap.size, 3, none⟩ (.slice Tf.a2 (freshOf c).ins.length Tf.n2)).setCell ⟨w6.heap.size, 4, none⟩ (.slice Tf.a3 (freshOf c).taken.length Tf.n3)).setCell ⟨w6.heap.size, 5, none⟩ (.slice Tf.a4 (freshOf c).outs.length Tf.n4)).setCell ⟨w6.heap.size, 6, none⟩ (.slice Tf.a5 (freshOf c).events.length Tf.n5)) := ⟨_, rfl⟩
    rw [← e7]
    have f_w7b : w7b.heap[w6.heap.size]? = some (.cells #[.slice Tf.a0 (freshOf c).jobs.length Tf.n0, .slice Tf.a1 (freshOf c).released.length Tf.n1, .int .i64 (freshOf c).next, .slice Tf.a2 (freshOf c).ins.length Tf.n2, .slice Tf.a3 (freshOf c).taken.length Tf.n3, .slice Tf.a4 (freshOf c).outs.length Tf.n4, .slice Tf.a5 (freshOf c).events.length Tf.n5] 90) := by rw [e7]; exact dom_set f_w7
    have r_w7b : w7b.heap[w6.heap.size + 1]? = some (.cells #[.slice none 0 0, .slice none 0 0, .int .i64 0, .slice none 0 0, .slice none 0 0, .slice none 0 0, .slice none 0 0] 90) := by rw [e7]; exact (dom_far (by omega)).trans r_w7
    have hb_w7b : Below w6.heap.size w6 w7b := by rw [e7]; exact dom_below byB (Nat.le_refl _)
    have z_w7b : w7b.heap.size = w7.heap.size := by rw [e7]; simp
    have k_w7b : ∀ b, b ≠ w6.heap.size → w7b.heap[b]? = w7.heap[b]? := fun b h => by rw [e7]; exact dom_far h
    clear e7
    have h_w7b : Below w.heap.size w w7b := h_w6.trans (hb_w7b.mono s_w6)
    revert hb_w7b; intro hb_w7b
    have s_w7b := Below.size h_w7b
    have t_w7b := Below.size hb_w7b
    replace hOf := hOf.keep (fun i b h => k_w7b b (by have := hGf i b h; omega)) (Nat.le_of_eq z_w7b.symm)
    have hf7b := hOf.read fun i b h => hOf.lt i b h
    have c_w7b := (k_w7b _ (Nat.ne_of_lt zc_w6)).trans c_w7
    have d_w7b := (k_w7b _ (Nat.ne_of_lt zd_w6)).trans d_w7
    have x_w7b := (k_w7b _ (Nat.ne_of_lt zx_w6)).trans x_w7
    have y_w7b := (k_w7b _ (Nat.ne_of_lt zy_w6)).trans y_w7
    obtain ⟨cc_w7b, fc_w7b, zc_w7b⟩ := blk c_w7b
    obtain ⟨cd_w7b, fd_w7b, zd_w7b⟩ := blk d_w7b
    obtain ⟨cx_w7b, fx_w7b, zx_w7b⟩ := blk x_w7b
    obtain ⟨cy_w7b, fy_w7b, zy_w7b⟩ := blk y_w7b
    obtain ⟨cf_w7b, ff_w7b, zf_w7b⟩ := blk f_w7b
    obtain ⟨cr_w7b, fr_w7b, zr_w7b⟩ := blk r_w7b
    refine wp_region_inv [91, 92, 93, 94, 95, 96, 97, 22, 23] (fun l f W => (Below w7b.heap.size w7b W ∧ l.size = 9) ∧ Fa l 0 (f 91 = .agg #[.int .i64 c.sets, .int .i64 c.ways, .int .i64 c.doms, .int .i64 c.pad, .int .i64 c.quantum, .slice S.a0 c.slots.length S.n0, .slice S.a1 c.owners.length S.n1, .slice S.a2 c.chans.length S.n2, .slice S.a3 c.tasks.length S.n3]) ∧ Fa l 1 (f 92 = .agg #[.slice T.a0 d.jobs.length T.n0, .slice T.a1 d.released.length T.n1, .int .i64 d.next, .slice T.a2 d.ins.length T.n2, .slice T.a3 d.taken.length T.n3, .slice T.a4 d.outs.length T.n4, .slice T.a5 d.events.length T.n5]) ∧ Fa l 2 (f 93 = .int .i64 PKV) ∧ Fa l 3 (f 94 = .agg #[.int .i64 c.sets, .int .i64 c.ways, .int .i64 c.doms, .int .i64 c.pad, .int .i64 c.quantum, .slice S.a0 c.slots.length S.n0, .slice S.a1 c.owners.length S.n1, .slice S.a2 c.chans.length S.n2, .slice S.a3 c.tasks.length S.n3]) ∧ Fa l 4 (f 95 = .int .i64 dom) ∧ Fa l 5 (f 96 = .agg #[.slice T.a0 d.jobs.length T.n0, .slice T.a1 d.released.length T.n1, .int .i64 d.next, .slice T.a2 d.ins.length T.n2, .slice T.a3 d.taken.length T.n3, .slice T.a4 d.outs.length T.n4, .slice T.a5 d.events.length T.n5]) ∧ Fa l 6 (f 97 = .int .i64 DUV) ∧ Fa l 7 (f 22 = .int .i64 PKV) ∧ Fa l 8 (f 23 = .int .i64 DUV)) (by kernel_rfl) (by decide) (by kernel_rfl) (by intro s hs; simp at hs ⊢; omega) ?_ ?_ ?_
    · intro l hz hl
      exact ⟨⟨(Below.refl _ _).drew, hz⟩, .no (hl 0), .no (hl 1), .no (hl 2), .no (hl 3), .no (hl 4), .no (hl 5), .no (hl 6), .no (hl 7), .no (hl 8)⟩
    · refine StepsL.cons 1 [] rfl (by kernel_rfl) rfl (by intro d hd; injection hd with hd; subst hd; decide) (fun l f W hR hn hb K Q2 hK => ?_) ?_
      · obtain ⟨hS, h0, h1, h2, h3, h4, h5, h6, h7, h8⟩ := hR
        replace hb := Lib.hid hb
        refine ⟨?_⟩
        simp only [putF, Act.put, List.setIfInBounds_toArray, List.set_cons_zero, List.set_cons_succ] at hK ⊢
        replace hK := Lib.hid hK
        obtain ⟨cX, fX, zX⟩ := blk ((hS.1.block _ (blk c_w7b).2.2).trans c_w7b)
        go_simp
        refine hK.out.out _ _ ⟨⟨hS.1, by simpa using hS.2⟩, ⟨fun _ => rfl⟩, h1.k, h2.k, h3.k, h4.k, h5.k, h6.k, h7.k, h8.k⟩
      refine StepsL.cons 2 [] rfl (by kernel_rfl) rfl (by intro d hd; injection hd with hd; subst hd; decide) (fun l f W hR hn hb K Q2 hK => ?_) ?_
      · obtain ⟨hS, h0, h1, h2, h3, h4, h5, h6, h7, h8⟩ := hR
        replace hb := Lib.hid hb
        refine ⟨?_⟩
        simp only [putF, Act.put, List.setIfInBounds_toArray, List.set_cons_zero, List.set_cons_succ] at hK ⊢
        replace hK := Lib.hid hK
        obtain ⟨cX, fX, zX⟩ := blk ((hS.1.block _ (blk d_w7b).2.2).trans d_w7b)
        go_simp
        refine hK.out.out _ _ ⟨⟨hS.1, by simpa using hS.2⟩, h0.k, ⟨fun _ => rfl⟩, h2.k, h3.k, h4.k, h5.k, h6.k, h7.k, h8.k⟩
      refine StepsL.cons 3 [0, 1] rfl (by kernel_rfl) rfl (by intro d hd; injection hd with hd; subst hd; decide) (fun l f W hR hn hb K Q2 hK => ?_) ?_
      · obtain ⟨hS, h0, h1, h2, h3, h4, h5, h6, h7, h8⟩ := hR
        have q0 := h0.out (hb 0 (by simp))
        have q1 := h1.out (hb 1 (by simp))
        replace hb := Lib.hid hb
        refine ⟨?_⟩
        simp only [putF, Act.put, List.setIfInBounds_toArray, List.set_cons_zero, List.set_cons_succ] at hK ⊢
        (try simp only [q0, q1] at hK)
        replace hK := Lib.hid hK
        have HC := HP.out W (h_w7b.trans (hS.1.mono s_w7b))
        go_simp
        go_at_call 56
        refine HC.mono ?_
        clear HC
        rintro e w3 ⟨rfl, hb3⟩
        try dsimp only
        try simp only [Act.put, List.setIfInBounds_toArray, List.set_cons_zero, List.set_cons_succ]
        refine hK.out.out _ _ ⟨⟨hS.1.trans (hb3.mono hS.1.size), by simpa using hS.2⟩, h0.k, h1.k, ⟨fun _ => rfl⟩, h3.k, h4.k, h5.k, h6.k, h7.k, h8.k⟩
      refine StepsL.cons 4 [] rfl (by kernel_rfl) rfl (by intro d hd; injection hd with hd; subst hd; decide) (fun l f W hR hn hb K Q2 hK => ?_) ?_
      · obtain ⟨hS, h0, h1, h2, h3, h4, h5, h6, h7, h8⟩ := hR
        replace hb := Lib.hid hb
        refine ⟨?_⟩
        simp only [putF, Act.put, List.setIfInBounds_toArray, List.set_cons_zero, List.set_cons_succ] at hK ⊢
        replace hK := Lib.hid hK
        obtain ⟨cX, fX, zX⟩ := blk ((hS.1.block _ (blk c_w7b).2.2).trans c_w7b)
        go_simp
        refine hK.out.out _ _ ⟨⟨hS.1, by simpa using hS.2⟩, h0.k, h1.k, h2.k, ⟨fun _ => rfl⟩, h4.k, h5.k, h6.k, h7.k, h8.k⟩
      refine StepsL.cons 5 [] rfl (by kernel_rfl) rfl (by intro d hd; injection hd with hd; subst hd; decide) (fun l f W hR hn hb K Q2 hK => ?_) ?_
      · obtain ⟨hS, h0, h1, h2, h3, h4, h5, h6, h7, h8⟩ := hR
        replace hb := Lib.hid hb
        refine ⟨?_⟩
        simp only [putF, Act.put, List.setIfInBounds_toArray, List.set_cons_zero, List.set_cons_succ] at hK ⊢
        replace hK := Lib.hid hK
        go_simp
        refine hK.out.out _ _ ⟨⟨hS.1, by simpa using hS.2⟩, h0.k, h1.k, h2.k, h3.k, ⟨fun _ => rfl⟩, h5.k, h6.k, h7.k, h8.k⟩
      refine StepsL.cons 6 [] rfl (by kernel_rfl) rfl (by intro d hd; injection hd with hd; subst hd; decide) (fun l f W hR hn hb K Q2 hK => ?_) ?_
      · obtain ⟨hS, h0, h1, h2, h3, h4, h5, h6, h7, h8⟩ := hR
        replace hb := Lib.hid hb
        refine ⟨?_⟩
        simp only [putF, Act.put, List.setIfInBounds_toArray, List.set_cons_zero, List.set_cons_succ] at hK ⊢
        replace hK := Lib.hid hK
        obtain ⟨cX, fX, zX⟩ := blk ((hS.1.block _ (blk d_w7b).2.2).trans d_w7b)
        go_simp
        refine hK.out.out _ _ ⟨⟨hS.1, by simpa using hS.2⟩, h0.k, h1.k, h2.k, h3.k, h4.k, ⟨fun _ => rfl⟩, h6.k, h7.k, h8.k⟩
      refine StepsL.cons 7 [3, 4, 5, 2] rfl (by kernel_rfl) rfl (by intro d hd; injection hd with hd; subst hd; decide) (fun l f W hR hn hb K Q2 hK => ?_) ?_
      · obtain ⟨hS, h0, h1, h2, h3, h4, h5, h6, h7, h8⟩ := hR
        have q2 := h2.out (hb 2 (by simp))
        have q3 := h3.out (hb 3 (by simp))
        have q4 := h4.out (hb 4 (by simp))
        have q5 := h5.out (hb 5 (by simp))
        replace hb := Lib.hid hb
        refine ⟨?_⟩
        simp only [putF, Act.put, List.setIfInBounds_toArray, List.set_cons_zero, List.set_cons_succ] at hK ⊢
        (try simp only [q2, q3, q4, q5] at hK)
        replace hK := Lib.hid hK
        have HC := HU.out W (h_w7b.trans (hS.1.mono s_w7b))
        go_simp
        go_at_call 57
        refine HC.mono ?_
        clear HC
        rintro e w3 ⟨rfl, hb3⟩
        try dsimp only
        try simp only [Act.put, List.setIfInBounds_toArray, List.set_cons_zero, List.set_cons_succ]
        refine hK.out.out _ _ ⟨⟨hS.1.trans (hb3.mono hS.1.size), by simpa using hS.2⟩, h0.k, h1.k, h2.k, h3.k, h4.k, h5.k, ⟨fun _ => rfl⟩, h7.k, h8.k⟩
      refine StepsL.cons 8 [2, 6, 0, 1, 2] rfl (by kernel_rfl) rfl (by intro d hd; injection hd with hd; subst hd; decide) (fun l f W hR hn hb K Q2 hK => ?_) ?_
      · obtain ⟨hS, h0, h1, h2, h3, h4, h5, h6, h7, h8⟩ := hR
        have q0 := h0.out (hb 0 (by simp))
        have q1 := h1.out (hb 1 (by simp))
        have q2 := h2.out (hb 2 (by simp))
        have q6 := h6.out (hb 6 (by simp))
        replace hb := Lib.hid hb
        refine ⟨?_⟩
        simp only [putF, Act.put, List.setIfInBounds_toArray, List.set_cons_zero, List.set_cons_succ] at hK ⊢
        (try simp only [q0, q1, q2, q6] at hK)
        replace hK := Lib.hid hK
        go_simp
        refine hK.out.out _ _ ⟨⟨hS.1, by simpa using hS.2⟩, h0.k, h1.k, h2.k, h3.k, h4.k, h5.k, h6.k, ⟨fun _ => rfl⟩, h8.k⟩
      refine StepsL.cons 9 [6, 7, 0, 1, 2, 3, 4, 5, 6, 7] rfl (by kernel_rfl) rfl (by intro d hd; injection hd with hd; subst hd; decide) (fun l f W hR hn hb K Q2 hK => ?_) ?_
      · obtain ⟨hS, h0, h1, h2, h3, h4, h5, h6, h7, h8⟩ := hR
        have q0 := h0.out (hb 0 (by simp))
        have q1 := h1.out (hb 1 (by simp))
        have q2 := h2.out (hb 2 (by simp))
        have q3 := h3.out (hb 3 (by simp))
        have q4 := h4.out (hb 4 (by simp))
        have q5 := h5.out (hb 5 (by simp))
        have q6 := h6.out (hb 6 (by simp))
        have q7 := h7.out (hb 7 (by simp))
        replace hb := Lib.hid hb
        refine ⟨?_⟩
        simp only [putF, Act.put, List.setIfInBounds_toArray, List.set_cons_zero, List.set_cons_succ] at hK ⊢
        (try simp only [q0, q1, q2, q3, q4, q5, q6, q7] at hK)
        replace hK := Lib.hid hK
        go_simp
        refine hK.out.out _ _ ⟨⟨hS.1, by simpa using hS.2⟩, h0.k, h1.k, h2.k, h3.k, h4.k, h5.k, h6.k, h7.k, ⟨fun _ => rfl⟩⟩
      exact StepsL.nil
    · intro l f W hR hall
      obtain ⟨hS, h0, h1, h2, h3, h4, h5, h6, h7, h8⟩ := hR
      have q0 := h0.out (hall 0 (by decide))
      have q1 := h1.out (hall 1 (by decide))
      have q2 := h2.out (hall 2 (by decide))
      have q3 := h3.out (hall 3 (by decide))
      have q4 := h4.out (hall 4 (by decide))
      have q5 := h5.out (hall 5 (by decide))
      have q6 := h6.out (hall 6 (by decide))
      have q7 := h7.out (hall 7 (by decide))
      have q8 := h8.out (hall 8 (by decide))
      clear h0 h1 h2 h3 h4 h5 h6 h7 h8
      obtain ⟨w9, rfl⟩ : ∃ X, X = W := ⟨_, rfl⟩
      have hb_w9 : Below w7b.heap.size w7b w9 := hS.1
      have h_w9 : Below w.heap.size w w9 := h_w7b.trans (hb_w9.mono s_w7b)
      revert hb_w9; intro hb_w9
      have s_w9 := Below.size h_w9
      have t_w9 := Below.size hb_w9
      have c_w9 := (hb_w9.block _ (blk c_w7b).2.2).trans c_w7b
      have d_w9 := (hb_w9.block _ (blk d_w7b).2.2).trans d_w7b
      have x_w9 := (hb_w9.block _ (blk x_w7b).2.2).trans x_w7b
      have y_w9 := (hb_w9.block _ (blk y_w7b).2.2).trans y_w7b
      have f_w9 := (hb_w9.block _ (blk f_w7b).2.2).trans f_w7b
      have r_w9 := (hb_w9.block _ (blk r_w7b).2.2).trans r_w7b
      obtain ⟨cc_w9, fc_w9, zc_w9⟩ := blk c_w9
      obtain ⟨cd_w9, fd_w9, zd_w9⟩ := blk d_w9
      obtain ⟨cx_w9, fx_w9, zx_w9⟩ := blk x_w9
      obtain ⟨cy_w9, fy_w9, zy_w9⟩ := blk y_w9
      obtain ⟨cf_w9, ff_w9, zf_w9⟩ := blk f_w9
      obtain ⟨cr_w9, fr_w9, zr_w9⟩ := blk r_w9
      simp only [putF, Act.put, List.setIfInBounds_toArray, List.set_cons_zero, List.set_cons_succ]
      simp only [q7, q8]
      clear q0 q1 q2 q3 q4 q5 q6 q7 q8 hall hS
      go_wp2_with fail
      (go_at_call 58; refine (H0.out _).mono ?_; rintro e w10 ⟨rfl, hb_w10⟩; refine have_then (P := w10.heap[w.heap.size]? = some (.cells #[.int .i64 c.sets, .int .i64 c.ways, .int .i64 c.doms, .int .i64 c.pad, .int .i64 c.quantum, .slice S.a0 c.slots.length S.n0, .slice S.a1 c.owners.length S.n1, .slice S.a2 c.chans.length S.n2, .slice S.a3 c.tasks.length S.n3] 63)) ((hb_w10.block _ byS).trans byH) (fun c_w10 => ?_); obtain ⟨cc_w10, fc_w10, zc_w10⟩ := blk c_w10; refine have_then (P := w10.heap[w.heap.size + 1]? = some (.cells #[.slice T.a0 d.jobs.length T.n0, .slice T.a1 d.released.length T.n1, .int .i64 d.next, .slice T.a2 d.ins.length T.n2, .slice T.a3 d.taken.length T.n3, .slice T.a4 d.outs.length T.n4, .slice T.a5 d.events.length T.n5] 90)) ((hb_w10.block _ byS).trans byH) (fun d_w10 => ?_); obtain ⟨cd_w10, fd_w10, zd_w10⟩ := blk d_w10; refine have_then (P := w10.heap[w1.heap.size]? = some (.cells #[.slice T1.a0 (freshOf c).jobs.length T1.n0, .slice T1.a1 (freshOf c).released.length T1.n1, .int .i64 (freshOf c).next, .slice T1.a2 (freshOf c).ins.length T1.n2, .slice T1.a3 (freshOf c).taken.length T1.n3, .slice T1.a4 (freshOf c).outs.length T1.n4, .slice T1.a5 (freshOf c).events.length T1.n5] 90)) ((hb_w10.block _ byS).trans byH) (fun x_w10 => ?_); obtain ⟨cx_w10, fx_w10, zx_w10⟩ := blk x_w10; refine have_then (P := w10.heap[w2.heap.size]? = some (.cells #[.slice T2.a0 noDom.jobs.length T2.n0, .slice T2.a1 noDom.released.length T2.n1, .int .i64 noDom.next, .slice T2.a2 noDom.ins.length T2.n2, .slice T2.a3 noDom.taken.length T2.n3, .slice T2.a4 noDom.outs.length T2.n4, .slice T2.a5 noDom.events.length T2.n5] 90)) ((hb_w10.block _ byS).trans byH) (fun y_w10 => ?_); obtain ⟨cy_w10, fy_w10, zy_w10⟩ := blk y_w10; refine have_then (P := w10.heap[w6.heap.size]? = some (.cells #[.slice Tf.a0 (freshOf c).jobs.length Tf.n0, .slice Tf.a1 (freshOf c).released.length Tf.n1, .int .i64 (freshOf c).next, .slice Tf.a2 (freshOf c).ins.length Tf.n2, .slice Tf.a3 (freshOf c).taken.length Tf.n3, .slice Tf.a4 (freshOf c).outs.length Tf.n4, .slice Tf.a5 (freshOf c).events.length Tf.n5] 90)) ((hb_w10.block _ byS).trans byH) (fun f_w10 => ?_); obtain ⟨cf_w10, ff_w10, zf_w10⟩ := blk f_w10; refine have_then (P := w10.heap[w6.heap.size + 1]? = some (.cells #[.slice none 0 0, .slice none 0 0, .int .i64 0, .slice none 0 0, .slice none 0 0, .slice none 0 0, .slice none 0 0] 90)) ((hb_w10.block _ byS).trans byH) (fun r_w10 => ?_); obtain ⟨cr_w10, fr_w10, zr_w10⟩ := blk r_w10; refine have_then (P := Below w.heap.size w w10) byB (fun h_w10 => ?_); have s_w10 := Below.size h_w10; have t_w10 := Below.size hb_w10; (try simp at t_w10); revert hb_w10; intro hb_w10; clear c_w7 cc_w7 fc_w7 d_w7 cd_w7 fd_w7 x_w7 cx_w7 fx_w7 y_w7 cy_w7 fy_w7 f_w7 cf_w7 ff_w7 r_w7 cr_w7 fr_w7)
      go_wp2_with fail
      (go_at_call 59; refine (HDX.out _ _ _ ((hx1.next (Nat.le_refl _) byB).up byS) ((hf7b.next (Nat.le_refl _) byB).up byS)).mono ?_; rintro e w11 ⟨rfl, hb_w11⟩; refine have_then (P := w11.heap[w.heap.size]? = some (.cells #[.int .i64 c.sets, .int .i64 c.ways, .int .i64 c.doms, .int .i64 c.pad, .int .i64 c.quantum, .slice S.a0 c.slots.length S.n0, .slice S.a1 c.owners.length S.n1, .slice S.a2 c.chans.length S.n2, .slice S.a3 c.tasks.length S.n3] 63)) ((hb_w11.block _ byS).trans byH) (fun c_w11 => ?_); obtain ⟨cc_w11, fc_w11, zc_w11⟩ := blk c_w11; refine have_then (P := w11.heap[w.heap.size + 1]? = some (.cells #[.slice T.a0 d.jobs.length T.n0, .slice T.a1 d.released.length T.n1, .int .i64 d.next, .slice T.a2 d.ins.length T.n2, .slice T.a3 d.taken.length T.n3, .slice T.a4 d.outs.length T.n4, .slice T.a5 d.events.length T.n5] 90)) ((hb_w11.block _ byS).trans byH) (fun d_w11 => ?_); obtain ⟨cd_w11, fd_w11, zd_w11⟩ := blk d_w11; refine have_then (P := w11.heap[w1.heap.size]? = some (.cells #[.slice T1.a0 (freshOf c).jobs.length T1.n0, .slice T1.a1 (freshOf c).released.length T1.n1, .int .i64 (freshOf c).next, .slice T1.a2 (freshOf c).ins.length T1.n2, .slice T1.a3 (freshOf c).taken.length T1.n3, .slice T1.a4 (freshOf c).outs.length T1.n4, .slice T1.a5 (freshOf c).events.length T1.n5] 90)) ((hb_w11.block _ byS).trans byH) (fun x_w11 => ?_); obtain ⟨cx_w11, fx_w11, zx_w11⟩ := blk x_w11; refine have_then (P := w11.heap[w2.heap.size]? = some (.cells #[.slice T2.a0 noDom.jobs.length T2.n0, .slice T2.a1 noDom.released.length T2.n1, .int .i64 noDom.next, .slice T2.a2 noDom.ins.length T2.n2, .slice T2.a3 noDom.taken.length T2.n3, .slice T2.a4 noDom.outs.length T2.n4, .slice T2.a5 noDom.events.length T2.n5] 90)) ((hb_w11.block _ byS).trans byH) (fun y_w11 => ?_); obtain ⟨cy_w11, fy_w11, zy_w11⟩ := blk y_w11; refine have_then (P := w11.heap[w6.heap.size]? = some (.cells #[.slice Tf.a0 (freshOf c).jobs.length Tf.n0, .slice Tf.a1 (freshOf c).released.length Tf.n1, .int .i64 (freshOf c).next, .slice Tf.a2 (freshOf c).ins.length Tf.n2, .slice Tf.a3 (freshOf c).taken.length Tf.n3, .slice Tf.a4 (freshOf c).outs.length Tf.n4, .slice Tf.a5 (freshOf c).events.length Tf.n5] 90)) ((hb_w11.block _ byS).trans byH) (fun f_w11 => ?_); obtain ⟨cf_w11, ff_w11, zf_w11⟩ := blk f_w11; refine have_then (P := w11.heap[w6.heap.size + 1]? = some (.cells #[.slice none 0 0, .slice none 0 0, .int .i64 0, .slice none 0 0, .slice none 0 0, .slice none 0 0, .slice none 0 0] 90)) ((hb_w11.block _ byS).trans byH) (fun r_w11 => ?_); obtain ⟨cr_w11, fr_w11, zr_w11⟩ := blk r_w11; refine have_then (P := Below w.heap.size w w11) byB (fun h_w11 => ?_); have s_w11 := Below.size h_w11; have t_w11 := Below.size hb_w11; (try simp at t_w11); revert hb_w11; intro hb_w11; clear c_w10 cc_w10 fc_w10 d_w10 cd_w10 fd_w10 x_w10 cx_w10 fx_w10 y_w10 cy_w10 fy_w10 f_w10 cf_w10 ff_w10 r_w10 cr_w10 fr_w10)
      go_wp2_with fail
      (go_at_call 60; refine (H5.out _ byB).mono ?_; rintro e w12 ⟨rfl, hb_w12⟩; refine have_then (P := w12.heap[w.heap.size]? = some (.cells #[.int .i64 c.sets, .int .i64 c.ways, .int .i64 c.doms, .int .i64 c.pad, .int .i64 c.quantum, .slice S.a0 c.slots.length S.n0, .slice S.a1 c.owners.length S.n1, .slice S.a2 c.chans.length S.n2, .slice S.a3 c.tasks.length S.n3] 63)) ((hb_w12.block _ byS).trans byH) (fun c_w12 => ?_); obtain ⟨cc_w12, fc_w12, zc_w12⟩ := blk c_w12; refine have_then (P := w12.heap[w.heap.size + 1]? = some (.cells #[.slice T.a0 d.jobs.length T.n0, .slice T.a1 d.released.length T.n1, .int .i64 d.next, .slice T.a2 d.ins.length T.n2, .slice T.a3 d.taken.length T.n3, .slice T.a4 d.outs.length T.n4, .slice T.a5 d.events.length T.n5] 90)) ((hb_w12.block _ byS).trans byH) (fun d_w12 => ?_); obtain ⟨cd_w12, fd_w12, zd_w12⟩ := blk d_w12; refine have_then (P := w12.heap[w1.heap.size]? = some (.cells #[.slice T1.a0 (freshOf c).jobs.length T1.n0, .slice T1.a1 (freshOf c).released.length T1.n1, .int .i64 (freshOf c).next, .slice T1.a2 (freshOf c).ins.length T1.n2, .slice T1.a3 (freshOf c).taken.length T1.n3, .slice T1.a4 (freshOf c).outs.length T1.n4, .slice T1.a5 (freshOf c).events.length T1.n5] 90)) ((hb_w12.block _ byS).trans byH) (fun x_w12 => ?_); obtain ⟨cx_w12, fx_w12, zx_w12⟩ := blk x_w12; refine have_then (P := w12.heap[w2.heap.size]? = some (.cells #[.slice T2.a0 noDom.jobs.length T2.n0, .slice T2.a1 noDom.released.length T2.n1, .int .i64 noDom.next, .slice T2.a2 noDom.ins.length T2.n2, .slice T2.a3 noDom.taken.length T2.n3, .slice T2.a4 noDom.outs.length T2.n4, .slice T2.a5 noDom.events.length T2.n5] 90)) ((hb_w12.block _ byS).trans byH) (fun y_w12 => ?_); obtain ⟨cy_w12, fy_w12, zy_w12⟩ := blk y_w12; refine have_then (P := w12.heap[w6.heap.size]? = some (.cells #[.slice Tf.a0 (freshOf c).jobs.length Tf.n0, .slice Tf.a1 (freshOf c).released.length Tf.n1, .int .i64 (freshOf c).next, .slice Tf.a2 (freshOf c).ins.length Tf.n2, .slice Tf.a3 (freshOf c).taken.length Tf.n3, .slice Tf.a4 (freshOf c).outs.length Tf.n4, .slice Tf.a5 (freshOf c).events.length Tf.n5] 90)) ((hb_w12.block _ byS).trans byH) (fun f_w12 => ?_); obtain ⟨cf_w12, ff_w12, zf_w12⟩ := blk f_w12; refine have_then (P := w12.heap[w6.heap.size + 1]? = some (.cells #[.slice none 0 0, .slice none 0 0, .int .i64 0, .slice none 0 0, .slice none 0 0, .slice none 0 0, .slice none 0 0] 90)) ((hb_w12.block _ byS).trans byH) (fun r_w12 => ?_); obtain ⟨cr_w12, fr_w12, zr_w12⟩ := blk r_w12; refine have_then (P := Below w.heap.size w w12) byB (fun h_w12 => ?_); have s_w12 := Below.size h_w12; have t_w12 := Below.size hb_w12; (try simp at t_w12); revert hb_w12; intro hb_w12; clear c_w11 cc_w11 fc_w11 d_w11 cd_w11 fd_w11 x_w11 cx_w11 fx_w11 y_w11 cy_w11 fy_w11 f_w11 cf_w11 ff_w11 r_w11 cr_w11 fr_w11)
      go_wp2_with fail
      (go_at_call 59; refine (HDN.out _ _ _ ((hy2.next (Nat.le_refl _) byB).up byS)).mono ?_; rintro e w13 ⟨rfl, hb_w13⟩; refine have_then (P := w13.heap[w.heap.size]? = some (.cells #[.int .i64 c.sets, .int .i64 c.ways, .int .i64 c.doms, .int .i64 c.pad, .int .i64 c.quantum, .slice S.a0 c.slots.length S.n0, .slice S.a1 c.owners.length S.n1, .slice S.a2 c.chans.length S.n2, .slice S.a3 c.tasks.length S.n3] 63)) ((hb_w13.block _ byS).trans byH) (fun c_w13 => ?_); obtain ⟨cc_w13, fc_w13, zc_w13⟩ := blk c_w13; refine have_then (P := w13.heap[w.heap.size + 1]? = some (.cells #[.slice T.a0 d.jobs.length T.n0, .slice T.a1 d.released.length T.n1, .int .i64 d.next, .slice T.a2 d.ins.length T.n2, .slice T.a3 d.taken.length T.n3, .slice T.a4 d.outs.length T.n4, .slice T.a5 d.events.length T.n5] 90)) ((hb_w13.block _ byS).trans byH) (fun d_w13 => ?_); obtain ⟨cd_w13, fd_w13, zd_w13⟩ := blk d_w13; refine have_then (P := w13.heap[w1.heap.size]? = some (.cells #[.slice T1.a0 (freshOf c).jobs.length T1.n0, .slice T1.a1 (freshOf c).released.length T1.n1, .int .i64 (freshOf c).next, .slice T1.a2 (freshOf c).ins.length T1.n2, .slice T1.a3 (freshOf c).taken.length T1.n3, .slice T1.a4 (freshOf c).outs.length T1.n4, .slice T1.a5 (freshOf c).events.length T1.n5] 90)) ((hb_w13.block _ byS).trans byH) (fun x_w13 => ?_); obtain ⟨cx_w13, fx_w13, zx_w13⟩ := blk x_w13; refine have_then (P := w13.heap[w2.heap.size]? = some (.cells #[.slice T2.a0 noDom.jobs.length T2.n0, .slice T2.a1 noDom.released.length T2.n1, .int .i64 noDom.next, .slice T2.a2 noDom.ins.length T2.n2, .slice T2.a3 noDom.taken.length T2.n3, .slice T2.a4 noDom.outs.length T2.n4, .slice T2.a5 noDom.events.length T2.n5] 90)) ((hb_w13.block _ byS).trans byH) (fun y_w13 => ?_); obtain ⟨cy_w13, fy_w13, zy_w13⟩ := blk y_w13; refine have_then (P := w13.heap[w6.heap.size]? = some (.cells #[.slice Tf.a0 (freshOf c).jobs.length Tf.n0, .slice Tf.a1 (freshOf c).released.length Tf.n1, .int .i64 (freshOf c).next, .slice Tf.a2 (freshOf c).ins.length Tf.n2, .slice Tf.a3 (freshOf c).taken.length Tf.n3, .slice Tf.a4 (freshOf c).outs.length Tf.n4, .slice Tf.a5 (freshOf c).events.length Tf.n5] 90)) ((hb_w13.block _ byS).trans byH) (fun f_w13 => ?_); obtain ⟨cf_w13, ff_w13, zf_w13⟩ := blk f_w13; refine have_then (P := w13.heap[w6.heap.size + 1]? = some (.cells #[.slice none 0 0, .slice none 0 0, .int .i64 0, .slice none 0 0, .slice none 0 0, .slice none 0 0, .slice none 0 0] 90)) ((hb_w13.block _ byS).trans byH) (fun r_w13 => ?_); obtain ⟨cr_w13, fr_w13, zr_w13⟩ := blk r_w13; refine have_then (P := Below w.heap.size w w13) byB (fun h_w13 => ?_); have s_w13 := Below.size h_w13; have t_w13 := Below.size hb_w13; (try simp at t_w13); revert hb_w13; intro hb_w13; clear c_w12 cc_w12 fc_w12 d_w12 cd_w12 fd_w12 x_w12 cx_w12 fx_w12 y_w12 cy_w12 fy_w12 f_w12 cf_w12 ff_w12 r_w12 cr_w12 fr_w12)
      go_wp2_with fail
      go_ret
      exact ⟨ret_bool (by simp), byB⟩

theorem lawReadyTells_d2 (c : TCfg) (S : TCfgS) (dom : Int) (d : TDom) (T : TDomS) (now : Int) (hz : DomSz d) (hev : d.events.length + 40 ≤ 4398046511104) (B : Nat) (w : World) (hB : B ≤ w.heap.size) (hs : TCfg.At (Low B) w c S) (hd : TDom.At (Low B) w d T) (e1 : checkConfig c = 0) (e2 : isDom c.doms dom = true) (e3 : checkBoth c dom d = 0) (hn1 : 0 ≤ now) (hn2 : 100000 < now) :
    Calls Try.prog 11 #[.agg #[.int .i64 c.sets, .int .i64 c.ways, .int .i64 c.doms, .int .i64 c.pad, .int .i64 c.quantum, .slice S.a0 c.slots.length S.n0, .slice S.a1 c.owners.length S.n1, .slice S.a2 c.chans.length S.n2, .slice S.a3 c.tasks.length S.n3], .int .i64 dom, .agg #[.slice T.a0 d.jobs.length T.n0, .slice T.a1 d.released.length T.n1, .int .i64 d.next, .slice T.a2 d.ins.length T.n2, .slice T.a3 d.taken.length T.n3, .slice T.a4 d.outs.length T.n4, .slice T.a5 d.events.length T.n5], .int .i64 now] w fun en w' => en = .returned (.bool true) ∧ Below w.heap.size w w' := by
  have HN := Lib.hid (fun W (h : Below w.heap.size w W) => readyNew c S dom B W (Nat.le_trans hB h.size) (hs.next hB h))
  have HL := Lib.hid (fun W (h : Below w.heap.size w W) => readyRelease c S dom d T now hz hev B W (Nat.le_trans hB h.size) (hs.next hB h) (hd.next hB h))
  have H3 := Lib.hid (fun W (h : Below w.heap.size w W) => readyPick c S dom d T hz B W (Nat.le_trans hB h.size) (hs.next hB h) (hd.next hB h))
  have H4 := Lib.hid (fun W (h : Below w.heap.size w W) => readyDue c S dom d T hz B W (Nat.le_trans hB h.size) (hs.next hB h) (hd.next hB h))
  have H5 := Lib.hid (fun W (h : Below w.heap.size w W) => readyCheck c S dom d T B W (Nat.le_trans hB h.size) (hs.next hB h) (hd.next hB h))
  have HA := Lib.hid (fun W (h : Below w.heap.size w W) => refCheckConfig c S B W (Nat.le_trans hB h.size) (hs.next hB h))
  have HB2 := Lib.hid (fun W (h : Below w.heap.size w W) => refCheckBoth c S dom d T B W (Nat.le_trans hB h.size) (hs.next hB h) (hd.next hB h))
  have H0 := Lib.hid lawReadyBegun
  have HDN := Lib.hid (fun E W T (h : TDom.At (Low W.heap.size) W noDom T) => lawDomainIs noDom T noDomS E (fun _ => rfl) W.heap.size W (Nat.le_refl _) h ((noDom_own W).read fun _ _ h => h.elim))
  have ok := checkConfig_ok e1
  have x1 : newErr c dom = 0 := by simp [newErr, e1, e2]
  have x2 : newOf c dom = freshOf c := by unfold newOf; rw [x1, if_pos rfl]
  rw [x1, x2] at HN
  rw [e1] at HA
  have HF := Lib.hid (fun W => refNewDomain c S ok W)
  have HDX := Lib.hid (fun W T1 T2 (h1 : TDom.At (Low W.heap.size) W (freshOf c) T1) (h2 : TDom.At (Low W.heap.size) W (freshOf c) T2) => lawDomainIs (freshOf c) T1 T2 0 (fun h => absurd rfl h) W.heap.size W (Nat.le_refl _) h1 h2)
  have y1 : relErr c dom d now = 3 := by simp [relErr, e3, inB]; omega
  have y2 : relOf c dom d now = noDom := by unfold relOf; rw [y1, if_neg (by decide)]
  rw [y1, y2] at HL
  obtain ⟨-, hk⟩ := checkBoth_ok e3
  have HP := Lib.hid (fun W (h : Below w.heap.size w W) => refPickOf c S dom d T ok hk B W (Nat.le_trans hB h.size) (hs.next hB h) (hd.next hB h))
  have HU := Lib.hid (fun W (h : Below w.heap.size w W) => refDueOf c S dom d T ok hk B W (Nat.le_trans hB h.size) (hs.next hB h) (hd.next hB h))
  simp only [e3, if_true] at H3 H4 H5 HB2
  have HX := Lib.hid (fun W => refIsDomain c S dom ok.doms.1 ok.doms.2 W)
  rw [e2] at HX
  have b4 : decide (now < 0) = false := by simpa using hn1
  have b5 : decide (now > 100000) = true := by simpa using hn2
  clear x1 x2 y1 y2 e1 e2 e3 hz hev hs hd ok hk
  generalize bestOf c d.jobs = PKV at *
  generalize dueOf c dom d = DUV at *
  go_enter Try.func11, Try.ntmps11
  go_wp2_with fail
  (go_at_call 48; refine (HN.out _ byB).mono ?_; rintro e w1 ⟨T1, G1, rfl, hO1, hG1, hb_w1⟩; refine have_then (P := w1.heap[w.heap.size]? = some (.cells #[.int .i64 c.sets, .int .i64 c.ways, .int .i64 c.doms, .int .i64 c.pad, .int .i64 c.quantum, .slice S.a0 c.slots.length S.n0, .slice S.a1 c.owners.length S.n1, .slice S.a2 c.chans.length S.n2, .slice S.a3 c.tasks.length S.n3] 63)) ((hb_w1.block _ byS).trans byH) (fun c_w1 => ?_); obtain ⟨cc_w1, fc_w1, zc_w1⟩ := blk c_w1; refine have_then (P := w1.heap[w.heap.size + 1]? = some (.cells #[.slice T.a0 d.jobs.length T.n0, .slice T.a1 d.released.length T.n1, .int .i64 d.next, .slice T.a2 d.ins.length T.n2, .slice T.a3 d.taken.length T.n3, .slice T.a4 d.outs.length T.n4, .slice T.a5 d.events.length T.n5] 90)) ((hb_w1.block _ byS).trans byH) (fun d_w1 => ?_); obtain ⟨cd_w1, fd_w1, zd_w1⟩ := blk d_w1; refine have_then (P := Below w.heap.size w w1) byB (fun h_w1 => ?_); have s_w1 := Below.size h_w1; have t_w1 := Below.size hb_w1; (try simp at t_w1); revert hb_w1; intro hb_w1)
  have hx1 := hO1.read fun i b hb => hO1.lt i b hb
  clear hO1 hG1
  go_wp2_with fail
  (go_at_call 49; refine (HL.out _ byB).mono ?_; rintro e w2 ⟨T2, G2, rfl, hO2, hG2, hb_w2⟩; refine have_then (P := w2.heap[w.heap.size]? = some (.cells #[.int .i64 c.sets, .int .i64 c.ways, .int .i64 c.doms, .int .i64 c.pad, .int .i64 c.quantum, .slice S.a0 c.slots.length S.n0, .slice S.a1 c.owners.length S.n1, .slice S.a2 c.chans.length S.n2, .slice S.a3 c.tasks.length S.n3] 63)) ((hb_w2.block _ byS).trans byH) (fun c_w2 => ?_); obtain ⟨cc_w2, fc_w2, zc_w2⟩ := blk c_w2; refine have_then (P := w2.heap[w.heap.size + 1]? = some (.cells #[.slice T.a0 d.jobs.length T.n0, .slice T.a1 d.released.length T.n1, .int .i64 d.next, .slice T.a2 d.ins.length T.n2, .slice T.a3 d.taken.length T.n3, .slice T.a4 d.outs.length T.n4, .slice T.a5 d.events.length T.n5] 90)) ((hb_w2.block _ byS).trans byH) (fun d_w2 => ?_); obtain ⟨cd_w2, fd_w2, zd_w2⟩ := blk d_w2; refine have_then (P := w2.heap[w1.heap.size]? = some (.cells #[.slice T1.a0 (freshOf c).jobs.length T1.n0, .slice T1.a1 (freshOf c).released.length T1.n1, .int .i64 (freshOf c).next, .slice T1.a2 (freshOf c).ins.length T1.n2, .slice T1.a3 (freshOf c).taken.length T1.n3, .slice T1.a4 (freshOf c).outs.length T1.n4, .slice T1.a5 (freshOf c).events.length T1.n5] 90)) ((hb_w2.block _ byS).trans byH) (fun x_w2 => ?_); obtain ⟨cx_w2, fx_w2, zx_w2⟩ := blk x_w2; refine have_then (P := Below w.heap.size w w2) byB (fun h_w2 => ?_); have s_w2 := Below.size h_w2; have t_w2 := Below.size hb_w2; (try simp at t_w2); revert hb_w2; intro hb_w2; clear c_w1 cc_w1 fc_w1 d_w1 cd_w1 fd_w1)
  have hy2 := hO2.read fun i b hb => hO2.lt i b hb
  clear hO2 hG2
  go_wp2_with fail
  (go_at_call 50; refine (H3.out _ byB).mono ?_; rintro e w3 ⟨rfl, hb_w3⟩; refine have_then (P := w3.heap[w.heap.size]? = some (.cells #[.int .i64 c.sets, .int .i64 c.ways, .int .i64 c.doms, .int .i64 c.pad, .int .i64 c.quantum, .slice S.a0 c.slots.length S.n0, .slice S.a1 c.owners.length S.n1, .slice S.a2 c.chans.length S.n2, .slice S.a3 c.tasks.length S.n3] 63)) ((hb_w3.block _ byS).trans byH) (fun c_w3 => ?_); obtain ⟨cc_w3, fc_w3, zc_w3⟩ := blk c_w3; refine have_then (P := w3.heap[w.heap.size + 1]? = some (.cells #[.slice T.a0 d.jobs.length T.n0, .slice T.a1 d.released.length T.n1, .int .i64 d.next, .slice T.a2 d.ins.length T.n2, .slice T.a3 d.taken.length T.n3, .slice T.a4 d.outs.length T.n4, .slice T.a5 d.events.length T.n5] 90)) ((hb_w3.block _ byS).trans byH) (fun d_w3 => ?_); obtain ⟨cd_w3, fd_w3, zd_w3⟩ := blk d_w3; refine have_then (P := w3.heap[w1.heap.size]? = some (.cells #[.slice T1.a0 (freshOf c).jobs.length T1.n0, .slice T1.a1 (freshOf c).released.length T1.n1, .int .i64 (freshOf c).next, .slice T1.a2 (freshOf c).ins.length T1.n2, .slice T1.a3 (freshOf c).taken.length T1.n3, .slice T1.a4 (freshOf c).outs.length T1.n4, .slice T1.a5 (freshOf c).events.length T1.n5] 90)) ((hb_w3.block _ byS).trans byH) (fun x_w3 => ?_); obtain ⟨cx_w3, fx_w3, zx_w3⟩ := blk x_w3; refine have_then (P := w3.heap[w2.heap.size]? = some (.cells #[.slice T2.a0 noDom.jobs.length T2.n0, .slice T2.a1 noDom.released.length T2.n1, .int .i64 noDom.next, .slice T2.a2 noDom.ins.length T2.n2, .slice T2.a3 noDom.taken.length T2.n3, .slice T2.a4 noDom.outs.length T2.n4, .slice T2.a5 noDom.events.length T2.n5] 90)) ((hb_w3.block _ byS).trans byH) (fun y_w3 => ?_); obtain ⟨cy_w3, fy_w3, zy_w3⟩ := blk y_w3; refine have_then (P := Below w.heap.size w w3) byB (fun h_w3 => ?_); have s_w3 := Below.size h_w3; have t_w3 := Below.size hb_w3; (try simp at t_w3); revert hb_w3; intro hb_w3; clear c_w2 cc_w2 fc_w2 d_w2 cd_w2 fd_w2 x_w2 cx_w2 fx_w2)
  go_wp2_with fail
  (go_at_call 51; refine (H4.out _ byB).mono ?_; rintro e w4 ⟨rfl, hb_w4⟩; refine have_then (P := w4.heap[w.heap.size]? = some (.cells #[.int .i64 c.sets, .int .i64 c.ways, .int .i64 c.doms, .int .i64 c.pad, .int .i64 c.quantum, .slice S.a0 c.slots.length S.n0, .slice S.a1 c.owners.length S.n1, .slice S.a2 c.chans.length S.n2, .slice S.a3 c.tasks.length S.n3] 63)) ((hb_w4.block _ byS).trans byH) (fun c_w4 => ?_); obtain ⟨cc_w4, fc_w4, zc_w4⟩ := blk c_w4; refine have_then (P := w4.heap[w.heap.size + 1]? = some (.cells #[.slice T.a0 d.jobs.length T.n0, .slice T.a1 d.released.length T.n1, .int .i64 d.next, .slice T.a2 d.ins.length T.n2, .slice T.a3 d.taken.length T.n3, .slice T.a4 d.outs.length T.n4, .slice T.a5 d.events.length T.n5] 90)) ((hb_w4.block _ byS).trans byH) (fun d_w4 => ?_); obtain ⟨cd_w4, fd_w4, zd_w4⟩ := blk d_w4; refine have_then (P := w4.heap[w1.heap.size]? = some (.cells #[.slice T1.a0 (freshOf c).jobs.length T1.n0, .slice T1.a1 (freshOf c).released.length T1.n1, .int .i64 (freshOf c).next, .slice T1.a2 (freshOf c).ins.length T1.n2, .slice T1.a3 (freshOf c).taken.length T1.n3, .slice T1.a4 (freshOf c).outs.length T1.n4, .slice T1.a5 (freshOf c).events.length T1.n5] 90)) ((hb_w4.block _ byS).trans byH) (fun x_w4 => ?_); obtain ⟨cx_w4, fx_w4, zx_w4⟩ := blk x_w4; refine have_then (P := w4.heap[w2.heap.size]? = some (.cells #[.slice T2.a0 noDom.jobs.length T2.n0, .slice T2.a1 noDom.released.length T2.n1, .int .i64 noDom.next, .slice T2.a2 noDom.ins.length T2.n2, .slice T2.a3 noDom.taken.length T2.n3, .slice T2.a4 noDom.outs.length T2.n4, .slice T2.a5 noDom.events.length T2.n5] 90)) ((hb_w4.block _ byS).trans byH) (fun y_w4 => ?_); obtain ⟨cy_w4, fy_w4, zy_w4⟩ := blk y_w4; refine have_then (P := Below w.heap.size w w4) byB (fun h_w4 => ?_); have s_w4 := Below.size h_w4; have t_w4 := Below.size hb_w4; (try simp at t_w4); revert hb_w4; intro hb_w4; clear c_w3 cc_w3 fc_w3 d_w3 cd_w3 fd_w3 x_w3 cx_w3 fx_w3 y_w3 cy_w3 fy_w3)
  go_wp2_with fail
  refine wp_region_inv [52, 53, 54, 55, 56, 57, 17, 18] (fun l f W => (Below w4.heap.size w4 W ∧ l.size = 8) ∧ Fa l 0 (f 52 = .agg #[.int .i64 c.sets, .int .i64 c.ways, .int .i64 c.doms, .int .i64 c.pad, .int .i64 c.quantum, .slice S.a0 c.slots.length S.n0, .slice S.a1 c.owners.length S.n1, .slice S.a2 c.chans.length S.n2, .slice S.a3 c.tasks.length S.n3]) ∧ Fa l 1 (f 53 = .int .i64 0) ∧ Fa l 2 (f 54 = .agg #[.int .i64 c.sets, .int .i64 c.ways, .int .i64 c.doms, .int .i64 c.pad, .int .i64 c.quantum, .slice S.a0 c.slots.length S.n0, .slice S.a1 c.owners.length S.n1, .slice S.a2 c.chans.length S.n2, .slice S.a3 c.tasks.length S.n3]) ∧ Fa l 3 (f 55 = .int .i64 dom) ∧ Fa l 4 (f 56 = .agg #[.slice T.a0 d.jobs.length T.n0, .slice T.a1 d.released.length T.n1, .int .i64 d.next, .slice T.a2 d.ins.length T.n2, .slice T.a3 d.taken.length T.n3, .slice T.a4 d.outs.length T.n4, .slice T.a5 d.events.length T.n5]) ∧ Fa l 5 (f 57 = .int .i64 0) ∧ Fa l 6 (f 17 = .int .i64 0) ∧ Fa l 7 (f 18 = .int .i64 0)) (by kernel_rfl) (by decide) (by kernel_rfl) (by intro s hs; simp at hs ⊢; omega) ?_ ?_ ?_
  · intro l hz hl
    exact ⟨⟨(Below.refl _ _).drew, hz⟩, .no (hl 0), .no (hl 1), .no (hl 2), .no (hl 3), .no (hl 4), .no (hl 5), .no (hl 6), .no (hl 7)⟩
  · refine StepsL.cons 1 [] rfl (by kernel_rfl) rfl (by intro d hd; injection hd with hd; subst hd; decide) (fun l f W hR hn hb K Q2 hK => ?_) ?_
    · obtain ⟨hS, h0, h1, h2, h3, h4, h5, h6, h7⟩ := hR
      replace hb := Lib.hid hb
      refine ⟨?_⟩
      simp only [putF, Act.put, List.setIfInBounds_toArray, List.set_cons_zero, List.set_cons_succ] at hK ⊢
      replace hK := Lib.hid hK
      obtain ⟨cX, fX, zX⟩ := blk ((hS.1.block _ (blk c_w4).2.2).trans c_w4)
      go_simp
      refine hK.out.out _ _ ⟨⟨hS.1, by simpa using hS.2⟩, ⟨fun _ => rfl⟩, h1.k, h2.k, h3.k, h4.k, h5.k, h6.k, h7.k⟩
    refine StepsL.cons 2 [0] rfl (by kernel_rfl) rfl (by intro d hd; injection hd with hd; subst hd; decide) (fun l f W hR hn hb K Q2 hK => ?_) ?_
    · obtain ⟨hS, h0, h1, h2, h3, h4, h5, h6, h7⟩ := hR
      have q0 := h0.out (hb 0 (by simp))
      replace hb := Lib.hid hb
      refine ⟨?_⟩
      simp only [putF, Act.put, List.setIfInBounds_toArray, List.set_cons_zero, List.set_cons_succ] at hK ⊢
      (try simp only [q0] at hK)
      replace hK := Lib.hid hK
      have HC := HA.out W (h_w4.trans (hS.1.mono s_w4))
      go_simp
      go_at_call 35
      refine HC.mono ?_
      clear HC
      rintro e w3 ⟨rfl, hb3⟩
      try dsimp only
      try simp only [Act.put, List.setIfInBounds_toArray, List.set_cons_zero, List.set_cons_succ]
      refine hK.out.out _ _ ⟨⟨hS.1.trans (hb3.mono hS.1.size), by simpa using hS.2⟩, h0.k, ⟨fun _ => rfl⟩, h2.k, h3.k, h4.k, h5.k, h6.k, h7.k⟩
    refine StepsL.cons 3 [] rfl (by kernel_rfl) rfl (by intro d hd; injection hd with hd; subst hd; decide) (fun l f W hR hn hb K Q2 hK => ?_) ?_
    · obtain ⟨hS, h0, h1, h2, h3, h4, h5, h6, h7⟩ := hR
      replace hb := Lib.hid hb
      refine ⟨?_⟩
      simp only [putF, Act.put, List.setIfInBounds_toArray, List.set_cons_zero, List.set_cons_succ] at hK ⊢
      replace hK := Lib.hid hK
      obtain ⟨cX, fX, zX⟩ := blk ((hS.1.block _ (blk c_w4).2.2).trans c_w4)
      go_simp
      refine hK.out.out _ _ ⟨⟨hS.1, by simpa using hS.2⟩, h0.k, h1.k, ⟨fun _ => rfl⟩, h3.k, h4.k, h5.k, h6.k, h7.k⟩
    refine StepsL.cons 4 [] rfl (by kernel_rfl) rfl (by intro d hd; injection hd with hd; subst hd; decide) (fun l f W hR hn hb K Q2 hK => ?_) ?_
    · obtain ⟨hS, h0, h1, h2, h3, h4, h5, h6, h7⟩ := hR
      replace hb := Lib.hid hb
      refine ⟨?_⟩
      simp only [putF, Act.put, List.setIfInBounds_toArray, List.set_cons_zero, List.set_cons_succ] at hK ⊢
      replace hK := Lib.hid hK
      go_simp
      refine hK.out.out _ _ ⟨⟨hS.1, by simpa using hS.2⟩, h0.k, h1.k, h2.k, ⟨fun _ => rfl⟩, h4.k, h5.k, h6.k, h7.k⟩
    refine StepsL.cons 5 [] rfl (by kernel_rfl) rfl (by intro d hd; injection hd with hd; subst hd; decide) (fun l f W hR hn hb K Q2 hK => ?_) ?_
    · obtain ⟨hS, h0, h1, h2, h3, h4, h5, h6, h7⟩ := hR
      replace hb := Lib.hid hb
      refine ⟨?_⟩
      simp only [putF, Act.put, List.setIfInBounds_toArray, List.set_cons_zero, List.set_cons_succ] at hK ⊢
      replace hK := Lib.hid hK
      obtain ⟨cX, fX, zX⟩ := blk ((hS.1.block _ (blk d_w4).2.2).trans d_w4)
      go_simp
      refine hK.out.out _ _ ⟨⟨hS.1, by simpa using hS.2⟩, h0.k, h1.k, h2.k, h3.k, ⟨fun _ => rfl⟩, h5.k, h6.k, h7.k⟩
    refine StepsL.cons 6 [2, 3, 4, 1] rfl (by kernel_rfl) rfl (by intro d hd; injection hd with hd; subst hd; decide) (fun l f W hR hn hb K Q2 hK => ?_) ?_
    · obtain ⟨hS, h0, h1, h2, h3, h4, h5, h6, h7⟩ := hR
      have q1 := h1.out (hb 1 (by simp))
      have q2 := h2.out (hb 2 (by simp))
      have q3 := h3.out (hb 3 (by simp))
      have q4 := h4.out (hb 4 (by simp))
      replace hb := Lib.hid hb
      refine ⟨?_⟩
      simp only [putF, Act.put, List.setIfInBounds_toArray, List.set_cons_zero, List.set_cons_succ] at hK ⊢
      (try simp only [q1, q2, q3, q4] at hK)
      replace hK := Lib.hid hK
      have HC := HB2.out W (h_w4.trans (hS.1.mono s_w4))
      go_simp
      go_at_call 52
      refine HC.mono ?_
      clear HC
      rintro e w3 ⟨rfl, hb3⟩
      try dsimp only
      try simp only [Act.put, List.setIfInBounds_toArray, List.set_cons_zero, List.set_cons_succ]
      refine hK.out.out _ _ ⟨⟨hS.1.trans (hb3.mono hS.1.size), by simpa using hS.2⟩, h0.k, h1.k, h2.k, h3.k, h4.k, ⟨fun _ => rfl⟩, h6.k, h7.k⟩
    refine StepsL.cons 7 [1, 5, 0, 1] rfl (by kernel_rfl) rfl (by intro d hd; injection hd with hd; subst hd; decide) (fun l f W hR hn hb K Q2 hK => ?_) ?_
    · obtain ⟨hS, h0, h1, h2, h3, h4, h5, h6, h7⟩ := hR
      have q0 := h0.out (hb 0 (by simp))
      have q1 := h1.out (hb 1 (by simp))
      have q5 := h5.out (hb 5 (by simp))
      replace hb := Lib.hid hb
      refine ⟨?_⟩
      simp only [putF, Act.put, List.setIfInBounds_toArray, List.set_cons_zero, List.set_cons_succ] at hK ⊢
      (try simp only [q0, q1, q5] at hK)
      replace hK := Lib.hid hK
      go_simp
      refine hK.out.out _ _ ⟨⟨hS.1, by simpa using hS.2⟩, h0.k, h1.k, h2.k, h3.k, h4.k, h5.k, ⟨fun _ => rfl⟩, h7.k⟩
    refine StepsL.cons 8 [5, 6, 0, 1, 2, 3, 4, 5, 6] rfl (by kernel_rfl) rfl (by intro d hd; injection hd with hd; subst hd; decide) (fun l f W hR hn hb K Q2 hK => ?_) ?_
    · obtain ⟨hS, h0, h1, h2, h3, h4, h5, h6, h7⟩ := hR
      have q0 := h0.out (hb 0 (by simp))
      have q1 := h1.out (hb 1 (by simp))
      have q2 := h2.out (hb 2 (by simp))
      have q3 := h3.out (hb 3 (by simp))
      have q4 := h4.out (hb 4 (by simp))
      have q5 := h5.out (hb 5 (by simp))
      have q6 := h6.out (hb 6 (by simp))
      replace hb := Lib.hid hb
      refine ⟨?_⟩
      simp only [putF, Act.put, List.setIfInBounds_toArray, List.set_cons_zero, List.set_cons_succ] at hK ⊢
      (try simp only [q0, q1, q2, q3, q4, q5, q6] at hK)
      replace hK := Lib.hid hK
      go_simp
      refine hK.out.out _ _ ⟨⟨hS.1, by simpa using hS.2⟩, h0.k, h1.k, h2.k, h3.k, h4.k, h5.k, h6.k, ⟨fun _ => rfl⟩⟩
    exact StepsL.nil
  · intro l f W hR hall
    obtain ⟨hS, h0, h1, h2, h3, h4, h5, h6, h7⟩ := hR
    have q0 := h0.out (hall 0 (by decide))
    have q1 := h1.out (hall 1 (by decide))
    have q2 := h2.out (hall 2 (by decide))
    have q3 := h3.out (hall 3 (by decide))
    have q4 := h4.out (hall 4 (by decide))
    have q5 := h5.out (hall 5 (by decide))
    have q6 := h6.out (hall 6 (by decide))
    have q7 := h7.out (hall 7 (by decide))
    clear h0 h1 h2 h3 h4 h5 h6 h7
    obtain ⟨w5, rfl⟩ : ∃ X, X = W := ⟨_, rfl⟩
    have hb_w5 : Below w4.heap.size w4 w5 := hS.1
    have h_w5 : Below w.heap.size w w5 := h_w4.trans (hb_w5.mono s_w4)
    revert hb_w5; intro hb_w5
    have s_w5 := Below.size h_w5
    have t_w5 := Below.size hb_w5
    have c_w5 := (hb_w5.block _ (blk c_w4).2.2).trans c_w4
    have d_w5 := (hb_w5.block _ (blk d_w4).2.2).trans d_w4
    have x_w5 := (hb_w5.block _ (blk x_w4).2.2).trans x_w4
    have y_w5 := (hb_w5.block _ (blk y_w4).2.2).trans y_w4
    obtain ⟨cc_w5, fc_w5, zc_w5⟩ := blk c_w5
    obtain ⟨cd_w5, fd_w5, zd_w5⟩ := blk d_w5
    obtain ⟨cx_w5, fx_w5, zx_w5⟩ := blk x_w5
    obtain ⟨cy_w5, fy_w5, zy_w5⟩ := blk y_w5
    simp only [putF, Act.put, List.setIfInBounds_toArray, List.set_cons_zero, List.set_cons_succ]
    simp only [q6, q7]
    clear q0 q1 q2 q3 q4 q5 q6 q7 hall hS
    go_wp2_with fail
    (go_at_call 36; refine (HX.out _).mono ?_; rintro e w6 ⟨rfl, hb_w6⟩; refine have_then (P := w6.heap[w.heap.size]? = some (.cells #[.int .i64 c.sets, .int .i64 c.ways, .int .i64 c.doms, .int .i64 c.pad, .int .i64 c.quantum, .slice S.a0 c.slots.length S.n0, .slice S.a1 c.owners.length S.n1, .slice S.a2 c.chans.length S.n2, .slice S.a3 c.tasks.length S.n3] 63)) ((hb_w6.block _ byS).trans byH) (fun c_w6 => ?_); obtain ⟨cc_w6, fc_w6, zc_w6⟩ := blk c_w6; refine have_then (P := w6.heap[w.heap.size + 1]? = some (.cells #[.slice T.a0 d.jobs.length T.n0, .slice T.a1 d.released.length T.n1, .int .i64 d.next, .slice T.a2 d.ins.length T.n2, .slice T.a3 d.taken.length T.n3, .slice T.a4 d.outs.length T.n4, .slice T.a5 d.events.length T.n5] 90)) ((hb_w6.block _ byS).trans byH) (fun d_w6 => ?_); obtain ⟨cd_w6, fd_w6, zd_w6⟩ := blk d_w6; refine have_then (P := w6.heap[w1.heap.size]? = some (.cells #[.slice T1.a0 (freshOf c).jobs.length T1.n0, .slice T1.a1 (freshOf c).released.length T1.n1, .int .i64 (freshOf c).next, .slice T1.a2 (freshOf c).ins.length T1.n2, .slice T1.a3 (freshOf c).taken.length T1.n3, .slice T1.a4 (freshOf c).outs.length T1.n4, .slice T1.a5 (freshOf c).events.length T1.n5] 90)) ((hb_w6.block _ byS).trans byH) (fun x_w6 => ?_); obtain ⟨cx_w6, fx_w6, zx_w6⟩ := blk x_w6; refine have_then (P := w6.heap[w2.heap.size]? = some (.cells #[.slice T2.a0 noDom.jobs.length T2.n0, .slice T2.a1 noDom.released.length T2.n1, .int .i64 noDom.next, .slice T2.a2 noDom.ins.length T2.n2, .slice T2.a3 noDom.taken.length T2.n3, .slice T2.a4 noDom.outs.length T2.n4, .slice T2.a5 noDom.events.length T2.n5] 90)) ((hb_w6.block _ byS).trans byH) (fun y_w6 => ?_); obtain ⟨cy_w6, fy_w6, zy_w6⟩ := blk y_w6; refine have_then (P := Below w.heap.size w w6) byB (fun h_w6 => ?_); have s_w6 := Below.size h_w6; have t_w6 := Below.size hb_w6; (try simp at t_w6); revert hb_w6; intro hb_w6; clear c_w4 cc_w4 fc_w4 d_w4 cd_w4 fd_w4 x_w4 cx_w4 fx_w4 y_w4 cy_w4 fy_w4)
    go_wp2_with fail
    (go_at_call 53; refine (HF.out _).mono ?_; rintro e w7 ⟨Tf, Gf, rfl, hOf, hGf, hb_w7⟩; refine have_then (P := w7.heap[w.heap.size]? = some (.cells #[.int .i64 c.sets, .int .i64 c.ways, .int .i64 c.doms, .int .i64 c.pad, .int .i64 c.quantum, .slice S.a0 c.slots.length S.n0, .slice S.a1 c.owners.length S.n1, .slice S.a2 c.chans.length S.n2, .slice S.a3 c.tasks.length S.n3] 63)) ((hb_w7.block _ byS).trans byH) (fun c_w7 => ?_); obtain ⟨cc_w7, fc_w7, zc_w7⟩ := blk c_w7; refine have_then (P := w7.heap[w.heap.size + 1]? = some (.cells #[.slice T.a0 d.jobs.length T.n0, .slice T.a1 d.released.length T.n1, .int .i64 d.next, .slice T.a2 d.ins.length T.n2, .slice T.a3 d.taken.length T.n3, .slice T.a4 d.outs.length T.n4, .slice T.a5 d.events.length T.n5] 90)) ((hb_w7.block _ byS).trans byH) (fun d_w7 => ?_); obtain ⟨cd_w7, fd_w7, zd_w7⟩ := blk d_w7; refine have_then (P := w7.heap[w1.heap.size]? = some (.cells #[.slice T1.a0 (freshOf c).jobs.length T1.n0, .slice T1.a1 (freshOf c).released.length T1.n1, .int .i64 (freshOf c).next, .slice T1.a2 (freshOf c).ins.length T1.n2, .slice T1.a3 (freshOf c).taken.length T1.n3, .slice T1.a4 (freshOf c).outs.length T1.n4, .slice T1.a5 (freshOf c).events.length T1.n5] 90)) ((hb_w7.block _ byS).trans byH) (fun x_w7 => ?_); obtain ⟨cx_w7, fx_w7, zx_w7⟩ := blk x_w7; refine have_then (P := w7.heap[w2.heap.size]? = some (.cells #[.slice T2.a0 noDom.jobs.length T2.n0, .slice T2.a1 noDom.released.length T2.n1, .int .i64 noDom.next, .slice T2.a2 noDom.ins.length T2.n2, .slice T2.a3 noDom.taken.length T2.n3, .slice T2.a4 noDom.outs.length T2.n4, .slice T2.a5 noDom.events.length T2.n5] 90)) ((hb_w7.block _ byS).trans byH) (fun y_w7 => ?_); obtain ⟨cy_w7, fy_w7, zy_w7⟩ := blk y_w7; refine have_then (P := w7.heap[w6.heap.size]? = some (.cells #[.slice none 0 0, .slice none 0 0, .int .i64 0, .slice none 0 0, .slice none 0 0, .slice none 0 0, .slice none 0 0] 90)) ((hb_w7.block _ byS).trans byH) (fun f_w7 => ?_); obtain ⟨cf_w7, ff_w7, zf_w7⟩ := blk f_w7; refine have_then (P := w7.heap[w6.heap.size + 1]? = some (.cells #[.slice none 0 0, .slice none 0 0, .int .i64 0, .slice none 0 0, .slice none 0 0, .slice none 0 0, .slice none 0 0] 90)) ((hb_w7.block _ byS).trans byH) (fun r_w7 => ?_); obtain ⟨cr_w7, fr_w7, zr_w7⟩ := blk r_w7; refine have_then (P := Below w.heap.size w w7) byB (fun h_w7 => ?_); have s_w7 := Below.size h_w7; have t_w7 := Below.size hb_w7; (try simp at t_w7); revert hb_w7; intro hb_w7; clear c_w6 cc_w6 fc_w6 d_w6 cd_w6 fd_w6 x_w6 cx_w6 fx_w6 y_w6 cy_w6 fy_w6)
    simp only [World.size_alloc] at hGf
    go_wp2_with fail
    obtain ⟨w7b, e7⟩ : ∃ X, X = (((((((w7.setCell ⟨w6.heap.size, 0, none⟩ (.slice Tf.a0 (freshOf c).jobs.length Tf.n0)).setCell ⟨w6.heap.size, 1, none⟩ (.slice Tf.a1 (freshOf c).released.length Tf.n1)).setCell ⟨w6.heap.size, 2, none⟩ (.int .i64 (freshOf c).next)).setCell ⟨w6.heap.size, 3, none⟩ (.slice Tf.a2 (freshOf c).ins.length Tf.n2)).setCell ⟨w6.heap.size, 4, none⟩ (.slice Tf.a3 (freshOf c).taken.length Tf.n3)).setCell ⟨w6.heap.size, 5, none⟩ (.slice Tf.a4 (freshOf c).outs.length Tf.n4)).setCell ⟨w6.heap.size, 6, none⟩ (.slice Tf.a5 (freshOf c).events.length Tf.n5)) := ⟨_, rfl⟩
    rw [← e7]
    have f_w7b : w7b.heap[w6.heap.size]? = some (.cells #[.slice Tf.a0 (freshOf c).jobs.length Tf.n0, .slice Tf.a1 (freshOf c).released.length Tf.n1, .int .i64 (freshOf c).next, .slice Tf.a2 (freshOf c).ins.length Tf.n2, .slice Tf.a3 (freshOf c).taken.length Tf.n3, .slice Tf.a4 (freshOf c).outs.length Tf.n4, .slice Tf.a5 (freshOf c).events.length Tf.n5] 90) := by rw [e7]; exact dom_set f_w7
    have r_w7b : w7b.heap[w6.heap.size + 1]? = some (.cells #[.slice none 0 0, .slice none 0 0, .int .i64 0, .slice none 0 0, .slice none 0 0, .slice none 0 0, .slice none 0 0] 90) := by rw [e7]; exact (dom_far (by omega)).trans r_w7
    have hb_w7b : Below w6.heap.size w6 w7b := by rw [e7]; exact dom_below byB (Nat.le_refl _)
    have z_w7b : w7b.heap.size = w7.heap.size := by rw [e7]; simp
    have k_w7b : ∀ b, b ≠ w6.heap.size → w7b.heap[b]? = w7.heap[b]? := fun b h => by rw [e7]; exact dom_far h
    clear e7
    have h_w7b : Below w.heap.size w w7b := h_w6.trans (hb_w7b.mono s_w6)
    revert hb_w7b; intro hb_w7b
    have s_w7b := Below.size h_w7b
    have t_w7b := Below.size hb_w7b
    replace hOf := hOf.keep (fun i b h => k_w7b b (by have := hGf i b h; omega)) (Nat.le_of_eq z_w7b.symm)
    have hf7b := hOf.read fun i b h => hOf.lt i b h
    have c_w7b := (k_w7b _ (Nat.ne_of_lt zc_w6)).trans c_w7
    have d_w7b := (k_w7b _ (Nat.ne_of_lt zd_w6)).trans d_w7
    have x_w7b := (k_w7b _ (Nat.ne_of_lt zx_w6)).trans x_w7
    have y_w7b := (k_w7b _ (Nat.ne_of_lt zy_w6)).trans y_w7
    obtain ⟨cc_w7b, fc_w7b, zc_w7b⟩ := blk c_w7b
    obtain ⟨cd_w7b, fd_w7b, zd_w7b⟩ := blk d_w7b
    obtain ⟨cx_w7b, fx_w7b, zx_w7b⟩ := blk x_w7b
    obtain ⟨cy_w7b, fy_w7b, zy_w7b⟩ := blk y_w7b
    obtain ⟨cf_w7b, ff_w7b, zf_w7b⟩ := blk f_w7b
    obtain ⟨cr_w7b, fr_w7b, zr_w7b⟩ := blk r_w7b
    refine wp_region_inv [91, 92, 93, 94, 95, 96, 97, 22, 23] (fun l f W => (Below w7b.heap.size w7b W ∧ l.size = 9) ∧ Fa l 0 (f 91 = .agg #[.int .i64 c.sets, .int .i64 c.ways, .int .i64 c.doms, .int .i64 c.pad, .int .i64 c.quantum, .slice S.a0 c.slots.length S.n0, .slice S.a1 c.owners.length S.n1, .slice S.a2 c.chans.length S.n2, .slice S.a3 c.tasks.length S.n3]) ∧ Fa l 1 (f 92 = .agg #[.slice T.a0 d.jobs.length T.n0, .slice T.a1 d.released.length T.n1, .int .i64 d.next, .slice T.a2 d.ins.length T.n2, .slice T.a3 d.taken.length T.n3, .slice T.a4 d.outs.length T.n4, .slice T.a5 d.events.length T.n5]) ∧ Fa l 2 (f 93 = .int .i64 PKV) ∧ Fa l 3 (f 94 = .agg #[.int .i64 c.sets, .int .i64 c.ways, .int .i64 c.doms, .int .i64 c.pad, .int .i64 c.quantum, .slice S.a0 c.slots.length S.n0, .slice S.a1 c.owners.length S.n1, .slice S.a2 c.chans.length S.n2, .slice S.a3 c.tasks.length S.n3]) ∧ Fa l 4 (f 95 = .int .i64 dom) ∧ Fa l 5 (f 96 = .agg #[.slice T.a0 d.jobs.length T.n0, .slice T.a1 d.released.length T.n1, .int .i64 d.next, .slice T.a2 d.ins.length T.n2, .slice T.a3 d.taken.length T.n3, .slice T.a4 d.outs.length T.n4, .slice T.a5 d.events.length T.n5]) ∧ Fa l 6 (f 97 = .int .i64 DUV) ∧ Fa l 7 (f 22 = .int .i64 PKV) ∧ Fa l 8 (f 23 = .int .i64 DUV)) (by kernel_rfl) (by decide) (by kernel_rfl) (by intro s hs; simp at hs ⊢; omega) ?_ ?_ ?_
    · intro l hz hl
      exact ⟨⟨(Below.refl _ _).drew, hz⟩, .no (hl 0), .no (hl 1), .no (hl 2), .no (hl 3), .no (hl 4), .no (hl 5), .no (hl 6), .no (hl 7), .no (hl 8)⟩
    · refine StepsL.cons 1 [] rfl (by kernel_rfl) rfl (by intro d hd; injection hd with hd; subst hd; decide) (fun l f W hR hn hb K Q2 hK => ?_) ?_
      · obtain ⟨hS, h0, h1, h2, h3, h4, h5, h6, h7, h8⟩ := hR
        replace hb := Lib.hid hb
        refine ⟨?_⟩
        simp only [putF, Act.put, List.setIfInBounds_toArray, List.set_cons_zero, List.set_cons_succ] at hK ⊢
        replace hK := Lib.hid hK
        obtain ⟨cX, fX, zX⟩ := blk ((hS.1.block _ (blk c_w7b).2.2).trans c_w7b)
        go_simp
        refine hK.out.out _ _ ⟨⟨hS.1, by simpa using hS.2⟩, ⟨fun _ => rfl⟩, h1.k, h2.k, h3.k, h4.k, h5.k, h6.k, h7.k, h8.k⟩
      refine StepsL.cons 2 [] rfl (by kernel_rfl) rfl (by intro d hd; injection hd with hd; subst hd; decide) (fun l f W hR hn hb K Q2 hK => ?_) ?_
      · obtain ⟨hS, h0, h1, h2, h3, h4, h5, h6, h7, h8⟩ := hR
        replace hb := Lib.hid hb
        refine ⟨?_⟩
        simp only [putF, Act.put, List.setIfInBounds_toArray, List.set_cons_zero, List.set_cons_succ] at hK ⊢
        replace hK := Lib.hid hK
        obtain ⟨cX, fX, zX⟩ := blk ((hS.1.block _ (blk d_w7b).2.2).trans d_w7b)
        go_simp
        refine hK.out.out _ _ ⟨⟨hS.1, by simpa using hS.2⟩, h0.k, ⟨fun _ => rfl⟩, h2.k, h3.k, h4.k, h5.k, h6.k, h7.k, h8.k⟩
      refine StepsL.cons 3 [0, 1] rfl (by kernel_rfl) rfl (by intro d hd; injection hd with hd; subst hd; decide) (fun l f W hR hn hb K Q2 hK => ?_) ?_
      · obtain ⟨hS, h0, h1, h2, h3, h4, h5, h6, h7, h8⟩ := hR
        have q0 := h0.out (hb 0 (by simp))
        have q1 := h1.out (hb 1 (by simp))
        replace hb := Lib.hid hb
        refine ⟨?_⟩
        simp only [putF, Act.put, List.setIfInBounds_toArray, List.set_cons_zero, List.set_cons_succ] at hK ⊢
        (try simp only [q0, q1] at hK)
        replace hK := Lib.hid hK
        have HC := HP.out W (h_w7b.trans (hS.1.mono s_w7b))
        go_simp
        go_at_call 56
        refine HC.mono ?_
        clear HC
        rintro e w3 ⟨rfl, hb3⟩
        try dsimp only
        try simp only [Act.put, List.setIfInBounds_toArray, List.set_cons_zero, List.set_cons_succ]
        refine hK.out.out _ _ ⟨⟨hS.1.trans (hb3.mono hS.1.size), by simpa using hS.2⟩, h0.k, h1.k, ⟨fun _ => rfl⟩, h3.k, h4.k, h5.k, h6.k, h7.k, h8.k⟩
      refine StepsL.cons 4 [] rfl (by kernel_rfl) rfl (by intro d hd; injection hd with hd; subst hd; decide) (fun l f W hR hn hb K Q2 hK => ?_) ?_
      · obtain ⟨hS, h0, h1, h2, h3, h4, h5, h6, h7, h8⟩ := hR
        replace hb := Lib.hid hb
        refine ⟨?_⟩
        simp only [putF, Act.put, List.setIfInBounds_toArray, List.set_cons_zero, List.set_cons_succ] at hK ⊢
        replace hK := Lib.hid hK
        obtain ⟨cX, fX, zX⟩ := blk ((hS.1.block _ (blk c_w7b).2.2).trans c_w7b)
        go_simp
        refine hK.out.out _ _ ⟨⟨hS.1, by simpa using hS.2⟩, h0.k, h1.k, h2.k, ⟨fun _ => rfl⟩, h4.k, h5.k, h6.k, h7.k, h8.k⟩
      refine StepsL.cons 5 [] rfl (by kernel_rfl) rfl (by intro d hd; injection hd with hd; subst hd; decide) (fun l f W hR hn hb K Q2 hK => ?_) ?_
      · obtain ⟨hS, h0, h1, h2, h3, h4, h5, h6, h7, h8⟩ := hR
        replace hb := Lib.hid hb
        refine ⟨?_⟩
        simp only [putF, Act.put, List.setIfInBounds_toArray, List.set_cons_zero, List.set_cons_succ] at hK ⊢
        replace hK := Lib.hid hK
        go_simp
        refine hK.out.out _ _ ⟨⟨hS.1, by simpa using hS.2⟩, h0.k, h1.k, h2.k, h3.k, ⟨fun _ => rfl⟩, h5.k, h6.k, h7.k, h8.k⟩
      refine StepsL.cons 6 [] rfl (by kernel_rfl) rfl (by intro d hd; injection hd with hd; subst hd; decide) (fun l f W hR hn hb K Q2 hK => ?_) ?_
      · obtain ⟨hS, h0, h1, h2, h3, h4, h5, h6, h7, h8⟩ := hR
        replace hb := Lib.hid hb
        refine ⟨?_⟩
        simp only [putF, Act.put, List.setIfInBounds_toArray, List.set_cons_zero, List.set_cons_succ] at hK ⊢
        replace hK := Lib.hid hK
        obtain ⟨cX, fX, zX⟩ := blk ((hS.1.block _ (blk d_w7b).2.2).trans d_w7b)
        go_simp
        refine hK.out.out _ _ ⟨⟨hS.1, by simpa using hS.2⟩, h0.k, h1.k, h2.k, h3.k, h4.k, ⟨fun _ => rfl⟩, h6.k, h7.k, h8.k⟩
      refine StepsL.cons 7 [3, 4, 5, 2] rfl (by kernel_rfl) rfl (by intro d hd; injection hd with hd; subst hd; decide) (fun l f W hR hn hb K Q2 hK => ?_) ?_
      · obtain ⟨hS, h0, h1, h2, h3, h4, h5, h6, h7, h8⟩ := hR
        have q2 := h2.out (hb 2 (by simp))
        have q3 := h3.out (hb 3 (by simp))
        have q4 := h4.out (hb 4 (by simp))
        have q5 := h5.out (hb 5 (by simp))
        replace hb := Lib.hid hb
        refine ⟨?_⟩
        simp only [putF, Act.put, List.setIfInBounds_toArray, List.set_cons_zero, List.set_cons_succ] at hK ⊢
        (try simp only [q2, q3, q4, q5] at hK)
        replace hK := Lib.hid hK
        have HC := HU.out W (h_w7b.trans (hS.1.mono s_w7b))
        go_simp
        go_at_call 57
        refine HC.mono ?_
        clear HC
        rintro e w3 ⟨rfl, hb3⟩
        try dsimp only
        try simp only [Act.put, List.setIfInBounds_toArray, List.set_cons_zero, List.set_cons_succ]
        refine hK.out.out _ _ ⟨⟨hS.1.trans (hb3.mono hS.1.size), by simpa using hS.2⟩, h0.k, h1.k, h2.k, h3.k, h4.k, h5.k, ⟨fun _ => rfl⟩, h7.k, h8.k⟩
      refine StepsL.cons 8 [2, 6, 0, 1, 2] rfl (by kernel_rfl) rfl (by intro d hd; injection hd with hd; subst hd; decide) (fun l f W hR hn hb K Q2 hK => ?_) ?_
      · obtain ⟨hS, h0, h1, h2, h3, h4, h5, h6, h7, h8⟩ := hR
        have q0 := h0.out (hb 0 (by simp))
        have q1 := h1.out (hb 1 (by simp))
        have q2 := h2.out (hb 2 (by simp))
        have q6 := h6.out (hb 6 (by simp))
        replace hb := Lib.hid hb
        refine ⟨?_⟩
        simp only [putF, Act.put, List.setIfInBounds_toArray, List.set_cons_zero, List.set_cons_succ] at hK ⊢
        (try simp only [q0, q1, q2, q6] at hK)
        replace hK := Lib.hid hK
        go_simp
        refine hK.out.out _ _ ⟨⟨hS.1, by simpa using hS.2⟩, h0.k, h1.k, h2.k, h3.k, h4.k, h5.k, h6.k, ⟨fun _ => rfl⟩, h8.k⟩
      refine StepsL.cons 9 [6, 7, 0, 1, 2, 3, 4, 5, 6, 7] rfl (by kernel_rfl) rfl (by intro d hd; injection hd with hd; subst hd; decide) (fun l f W hR hn hb K Q2 hK => ?_) ?_
      · obtain ⟨hS, h0, h1, h2, h3, h4, h5, h6, h7, h8⟩ := hR
        have q0 := h0.out (hb 0 (by simp))
        have q1 := h1.out (hb 1 (by simp))
        have q2 := h2.out (hb 2 (by simp))
        have q3 := h3.out (hb 3 (by simp))
        have q4 := h4.out (hb 4 (by simp))
        have q5 := h5.out (hb 5 (by simp))
        have q6 := h6.out (hb 6 (by simp))
        have q7 := h7.out (hb 7 (by simp))
        replace hb := Lib.hid hb
        refine ⟨?_⟩
        simp only [putF, Act.put, List.setIfInBounds_toArray, List.set_cons_zero, List.set_cons_succ] at hK ⊢
        (try simp only [q0, q1, q2, q3, q4, q5, q6, q7] at hK)
        replace hK := Lib.hid hK
        go_simp
        refine hK.out.out _ _ ⟨⟨hS.1, by simpa using hS.2⟩, h0.k, h1.k, h2.k, h3.k, h4.k, h5.k, h6.k, h7.k, ⟨fun _ => rfl⟩⟩
      exact StepsL.nil
    · intro l f W hR hall
      obtain ⟨hS, h0, h1, h2, h3, h4, h5, h6, h7, h8⟩ := hR
      have q0 := h0.out (hall 0 (by decide))
      have q1 := h1.out (hall 1 (by decide))
      have q2 := h2.out (hall 2 (by decide))
      have q3 := h3.out (hall 3 (by decide))
      have q4 := h4.out (hall 4 (by decide))
      have q5 := h5.out (hall 5 (by decide))
      have q6 := h6.out (hall 6 (by decide))
      have q7 := h7.out (hall 7 (by decide))
      have q8 := h8.out (hall 8 (by decide))
      clear h0 h1 h2 h3 h4 h5 h6 h7 h8
      obtain ⟨w9, rfl⟩ : ∃ X, X = W := ⟨_, rfl⟩
      have hb_w9 : Below w7b.heap.size w7b w9 := hS.1
      have h_w9 : Below w.heap.size w w9 := h_w7b.trans (hb_w9.mono s_w7b)
      revert hb_w9; intro hb_w9
      have s_w9 := Below.size h_w9
      have t_w9 := Below.size hb_w9
      have c_w9 := (hb_w9.block _ (blk c_w7b).2.2).trans c_w7b
      have d_w9 := (hb_w9.block _ (blk d_w7b).2.2).trans d_w7b
      have x_w9 := (hb_w9.block _ (blk x_w7b).2.2).trans x_w7b
      have y_w9 := (hb_w9.block _ (blk y_w7b).2.2).trans y_w7b
      have f_w9 := (hb_w9.block _ (blk f_w7b).2.2).trans f_w7b
      have r_w9 := (hb_w9.block _ (blk r_w7b).2.2).trans r_w7b
      obtain ⟨cc_w9, fc_w9, zc_w9⟩ := blk c_w9
      obtain ⟨cd_w9, fd_w9, zd_w9⟩ := blk d_w9
      obtain ⟨cx_w9, fx_w9, zx_w9⟩ := blk x_w9
      obtain ⟨cy_w9, fy_w9, zy_w9⟩ := blk y_w9
      obtain ⟨cf_w9, ff_w9, zf_w9⟩ := blk f_w9
      obtain ⟨cr_w9, fr_w9, zr_w9⟩ := blk r_w9
      simp only [putF, Act.put, List.setIfInBounds_toArray, List.set_cons_zero, List.set_cons_succ]
      simp only [q7, q8]
      clear q0 q1 q2 q3 q4 q5 q6 q7 q8 hall hS
      go_wp2_with fail
      (go_at_call 58; refine (H0.out _).mono ?_; rintro e w10 ⟨rfl, hb_w10⟩; refine have_then (P := w10.heap[w.heap.size]? = some (.cells #[.int .i64 c.sets, .int .i64 c.ways, .int .i64 c.doms, .int .i64 c.pad, .int .i64 c.quantum, .slice S.a0 c.slots.length S.n0, .slice S.a1 c.owners.length S.n1, .slice S.a2 c.chans.length S.n2, .slice S.a3 c.tasks.length S.n3] 63)) ((hb_w10.block _ byS).trans byH) (fun c_w10 => ?_); obtain ⟨cc_w10, fc_w10, zc_w10⟩ := blk c_w10; refine have_then (P := w10.heap[w.heap.size + 1]? = some (.cells #[.slice T.a0 d.jobs.length T.n0, .slice T.a1 d.released.length T.n1, .int .i64 d.next, .slice T.a2 d.ins.length T.n2, .slice T.a3 d.taken.length T.n3, .slice T.a4 d.outs.length T.n4, .slice T.a5 d.events.length T.n5] 90)) ((hb_w10.block _ byS).trans byH) (fun d_w10 => ?_); obtain ⟨cd_w10, fd_w10, zd_w10⟩ := blk d_w10; refine have_then (P := w10.heap[w1.heap.size]? = some (.cells #[.slice T1.a0 (freshOf c).jobs.length T1.n0, .slice T1.a1 (freshOf c).released.length T1.n1, .int .i64 (freshOf c).next, .slice T1.a2 (freshOf c).ins.length T1.n2, .slice T1.a3 (freshOf c).taken.length T1.n3, .slice T1.a4 (freshOf c).outs.length T1.n4, .slice T1.a5 (freshOf c).events.length T1.n5] 90)) ((hb_w10.block _ byS).trans byH) (fun x_w10 => ?_); obtain ⟨cx_w10, fx_w10, zx_w10⟩ := blk x_w10; refine have_then (P := w10.heap[w2.heap.size]? = some (.cells #[.slice T2.a0 noDom.jobs.length T2.n0, .slice T2.a1 noDom.released.length T2.n1, .int .i64 noDom.next, .slice T2.a2 noDom.ins.length T2.n2, .slice T2.a3 noDom.taken.length T2.n3, .slice T2.a4 noDom.outs.length T2.n4, .slice T2.a5 noDom.events.length T2.n5] 90)) ((hb_w10.block _ byS).trans byH) (fun y_w10 => ?_); obtain ⟨cy_w10, fy_w10, zy_w10⟩ := blk y_w10; refine have_then (P := w10.heap[w6.heap.size]? = some (.cells #[.slice Tf.a0 (freshOf c).jobs.length Tf.n0, .slice Tf.a1 (freshOf c).released.length Tf.n1, .int .i64 (freshOf c).next, .slice Tf.a2 (freshOf c).ins.length Tf.n2, .slice Tf.a3 (freshOf c).taken.length Tf.n3, .slice Tf.a4 (freshOf c).outs.length Tf.n4, .slice Tf.a5 (freshOf c).events.length Tf.n5] 90)) ((hb_w10.block _ byS).trans byH) (fun f_w10 => ?_); obtain ⟨cf_w10, ff_w10, zf_w10⟩ := blk f_w10; refine have_then (P := w10.heap[w6.heap.size + 1]? = some (.cells #[.slice none 0 0, .slice none 0 0, .int .i64 0, .slice none 0 0, .slice none 0 0, .slice none 0 0, .slice none 0 0] 90)) ((hb_w10.block _ byS).trans byH) (fun r_w10 => ?_); obtain ⟨cr_w10, fr_w10, zr_w10⟩ := blk r_w10; refine have_then (P := Below w.heap.size w w10) byB (fun h_w10 => ?_); have s_w10 := Below.size h_w10; have t_w10 := Below.size hb_w10; (try simp at t_w10); revert hb_w10; intro hb_w10; clear c_w7 cc_w7 fc_w7 d_w7 cd_w7 fd_w7 x_w7 cx_w7 fx_w7 y_w7 cy_w7 fy_w7 f_w7 cf_w7 ff_w7 r_w7 cr_w7 fr_w7)
      go_wp2_with fail
      (go_at_call 59; refine (HDX.out _ _ _ ((hx1.next (Nat.le_refl _) byB).up byS) ((hf7b.next (Nat.le_refl _) byB).up byS)).mono ?_; rintro e w11 ⟨rfl, hb_w11⟩; refine have_then (P := w11.heap[w.heap.size]? = some (.cells #[.int .i64 c.sets, .int .i64 c.ways, .int .i64 c.doms, .int .i64 c.pad, .int .i64 c.quantum, .slice S.a0 c.slots.length S.n0, .slice S.a1 c.owners.length S.n1, .slice S.a2 c.chans.length S.n2, .slice S.a3 c.tasks.length S.n3] 63)) ((hb_w11.block _ byS).trans byH) (fun c_w11 => ?_); obtain ⟨cc_w11, fc_w11, zc_w11⟩ := blk c_w11; refine have_then (P := w11.heap[w.heap.size + 1]? = some (.cells #[.slice T.a0 d.jobs.length T.n0, .slice T.a1 d.released.length T.n1, .int .i64 d.next, .slice T.a2 d.ins.length T.n2, .slice T.a3 d.taken.length T.n3, .slice T.a4 d.outs.length T.n4, .slice T.a5 d.events.length T.n5] 90)) ((hb_w11.block _ byS).trans byH) (fun d_w11 => ?_); obtain ⟨cd_w11, fd_w11, zd_w11⟩ := blk d_w11; refine have_then (P := w11.heap[w1.heap.size]? = some (.cells #[.slice T1.a0 (freshOf c).jobs.length T1.n0, .slice T1.a1 (freshOf c).released.length T1.n1, .int .i64 (freshOf c).next, .slice T1.a2 (freshOf c).ins.length T1.n2, .slice T1.a3 (freshOf c).taken.length T1.n3, .slice T1.a4 (freshOf c).outs.length T1.n4, .slice T1.a5 (freshOf c).events.length T1.n5] 90)) ((hb_w11.block _ byS).trans byH) (fun x_w11 => ?_); obtain ⟨cx_w11, fx_w11, zx_w11⟩ := blk x_w11; refine have_then (P := w11.heap[w2.heap.size]? = some (.cells #[.slice T2.a0 noDom.jobs.length T2.n0, .slice T2.a1 noDom.released.length T2.n1, .int .i64 noDom.next, .slice T2.a2 noDom.ins.length T2.n2, .slice T2.a3 noDom.taken.length T2.n3, .slice T2.a4 noDom.outs.length T2.n4, .slice T2.a5 noDom.events.length T2.n5] 90)) ((hb_w11.block _ byS).trans byH) (fun y_w11 => ?_); obtain ⟨cy_w11, fy_w11, zy_w11⟩ := blk y_w11; refine have_then (P := w11.heap[w6.heap.size]? = some (.cells #[.slice Tf.a0 (freshOf c).jobs.length Tf.n0, .slice Tf.a1 (freshOf c).released.length Tf.n1, .int .i64 (freshOf c).next, .slice Tf.a2 (freshOf c).ins.length Tf.n2, .slice Tf.a3 (freshOf c).taken.length Tf.n3, .slice Tf.a4 (freshOf c).outs.length Tf.n4, .slice Tf.a5 (freshOf c).events.length Tf.n5] 90)) ((hb_w11.block _ byS).trans byH) (fun f_w11 => ?_); obtain ⟨cf_w11, ff_w11, zf_w11⟩ := blk f_w11; refine have_then (P := w11.heap[w6.heap.size + 1]? = some (.cells #[.slice none 0 0, .slice none 0 0, .int .i64 0, .slice none 0 0, .slice none 0 0, .slice none 0 0, .slice none 0 0] 90)) ((hb_w11.block _ byS).trans byH) (fun r_w11 => ?_); obtain ⟨cr_w11, fr_w11, zr_w11⟩ := blk r_w11; refine have_then (P := Below w.heap.size w w11) byB (fun h_w11 => ?_); have s_w11 := Below.size h_w11; have t_w11 := Below.size hb_w11; (try simp at t_w11); revert hb_w11; intro hb_w11; clear c_w10 cc_w10 fc_w10 d_w10 cd_w10 fd_w10 x_w10 cx_w10 fx_w10 y_w10 cy_w10 fy_w10 f_w10 cf_w10 ff_w10 r_w10 cr_w10 fr_w10)
      go_wp2_with fail
      (go_at_call 60; refine (H5.out _ byB).mono ?_; rintro e w12 ⟨rfl, hb_w12⟩; refine have_then (P := w12.heap[w.heap.size]? = some (.cells #[.int .i64 c.sets, .int .i64 c.ways, .int .i64 c.doms, .int .i64 c.pad, .int .i64 c.quantum, .slice S.a0 c.slots.length S.n0, .slice S.a1 c.owners.length S.n1, .slice S.a2 c.chans.length S.n2, .slice S.a3 c.tasks.length S.n3] 63)) ((hb_w12.block _ byS).trans byH) (fun c_w12 => ?_); obtain ⟨cc_w12, fc_w12, zc_w12⟩ := blk c_w12; refine have_then (P := w12.heap[w.heap.size + 1]? = some (.cells #[.slice T.a0 d.jobs.length T.n0, .slice T.a1 d.released.length T.n1, .int .i64 d.next, .slice T.a2 d.ins.length T.n2, .slice T.a3 d.taken.length T.n3, .slice T.a4 d.outs.length T.n4, .slice T.a5 d.events.length T.n5] 90)) ((hb_w12.block _ byS).trans byH) (fun d_w12 => ?_); obtain ⟨cd_w12, fd_w12, zd_w12⟩ := blk d_w12; refine have_then (P := w12.heap[w1.heap.size]? = some (.cells #[.slice T1.a0 (freshOf c).jobs.length T1.n0, .slice T1.a1 (freshOf c).released.length T1.n1, .int .i64 (freshOf c).next, .slice T1.a2 (freshOf c).ins.length T1.n2, .slice T1.a3 (freshOf c).taken.length T1.n3, .slice T1.a4 (freshOf c).outs.length T1.n4, .slice T1.a5 (freshOf c).events.length T1.n5] 90)) ((hb_w12.block _ byS).trans byH) (fun x_w12 => ?_); obtain ⟨cx_w12, fx_w12, zx_w12⟩ := blk x_w12; refine have_then (P := w12.heap[w2.heap.size]? = some (.cells #[.slice T2.a0 noDom.jobs.length T2.n0, .slice T2.a1 noDom.released.length T2.n1, .int .i64 noDom.next, .slice T2.a2 noDom.ins.length T2.n2, .slice T2.a3 noDom.taken.length T2.n3, .slice T2.a4 noDom.outs.length T2.n4, .slice T2.a5 noDom.events.length T2.n5] 90)) ((hb_w12.block _ byS).trans byH) (fun y_w12 => ?_); obtain ⟨cy_w12, fy_w12, zy_w12⟩ := blk y_w12; refine have_then (P := w12.heap[w6.heap.size]? = some (.cells #[.slice Tf.a0 (freshOf c).jobs.length Tf.n0, .slice Tf.a1 (freshOf c).released.length Tf.n1, .int .i64 (freshOf c).next, .slice Tf.a2 (freshOf c).ins.length Tf.n2, .slice Tf.a3 (freshOf c).taken.length Tf.n3, .slice Tf.a4 (freshOf c).outs.length Tf.n4, .slice Tf.a5 (freshOf c).events.length Tf.n5] 90)) ((hb_w12.block _ byS).trans byH) (fun f_w12 => ?_); obtain ⟨cf_w12, ff_w12, zf_w12⟩ := blk f_w12; refine have_then (P := w12.heap[w6.heap.size + 1]? = some (.cells #[.slice none 0 0, .slice none 0 0, .int .i64 0, .slice none 0 0, .slice none 0 0, .slice none 0 0, .slice none 0 0] 90)) ((hb_w12.block _ byS).trans byH) (fun r_w12 => ?_); obtain ⟨cr_w12, fr_w12, zr_w12⟩ := blk r_w12; refine have_then (P := Below w.heap.size w w12) byB (fun h_w12 => ?_); have s_w12 := Below.size h_w12; have t_w12 := Below.size hb_w12; (try simp at t_w12); revert hb_w12; intro hb_w12; clear c_w11 cc_w11 fc_w11 d_w11 cd_w11 fd_w11 x_w11 cx_w11 fx_w11 y_w11 cy_w11 fy_w11 f_w11 cf_w11 ff_w11 r_w11 cr_w11 fr_w11)
      go_wp2_with fail
      (go_at_call 59; refine (HDN.out _ _ _ ((hy2.next (Nat.le_refl _) byB).up byS)).mono ?_; rintro e w13 ⟨rfl, hb_w13⟩; refine have_then (P := w13.heap[w.heap.size]? = some (.cells #[.int .i64 c.sets, .int .i64 c.ways, .int .i64 c.doms, .int .i64 c.pad, .int .i64 c.quantum, .slice S.a0 c.slots.length S.n0, .slice S.a1 c.owners.length S.n1, .slice S.a2 c.chans.length S.n2, .slice S.a3 c.tasks.length S.n3] 63)) ((hb_w13.block _ byS).trans byH) (fun c_w13 => ?_); obtain ⟨cc_w13, fc_w13, zc_w13⟩ := blk c_w13; refine have_then (P := w13.heap[w.heap.size + 1]? = some (.cells #[.slice T.a0 d.jobs.length T.n0, .slice T.a1 d.released.length T.n1, .int .i64 d.next, .slice T.a2 d.ins.length T.n2, .slice T.a3 d.taken.length T.n3, .slice T.a4 d.outs.length T.n4, .slice T.a5 d.events.length T.n5] 90)) ((hb_w13.block _ byS).trans byH) (fun d_w13 => ?_); obtain ⟨cd_w13, fd_w13, zd_w13⟩ := blk d_w13; refine have_then (P := w13.heap[w1.heap.size]? = some (.cells #[.slice T1.a0 (freshOf c).jobs.length T1.n0, .slice T1.a1 (freshOf c).released.length T1.n1, .int .i64 (freshOf c).next, .slice T1.a2 (freshOf c).ins.length T1.n2, .slice T1.a3 (freshOf c).taken.length T1.n3, .slice T1.a4 (freshOf c).outs.length T1.n4, .slice T1.a5 (freshOf c).events.length T1.n5] 90)) ((hb_w13.block _ byS).trans byH) (fun x_w13 => ?_); obtain ⟨cx_w13, fx_w13, zx_w13⟩ := blk x_w13; refine have_then (P := w13.heap[w2.heap.size]? = some (.cells #[.slice T2.a0 noDom.jobs.length T2.n0, .slice T2.a1 noDom.released.length T2.n1, .int .i64 noDom.next, .slice T2.a2 noDom.ins.length T2.n2, .slice T2.a3 noDom.taken.length T2.n3, .slice T2.a4 noDom.outs.length T2.n4, .slice T2.a5 noDom.events.length T2.n5] 90)) ((hb_w13.block _ byS).trans byH) (fun y_w13 => ?_); obtain ⟨cy_w13, fy_w13, zy_w13⟩ := blk y_w13; refine have_then (P := w13.heap[w6.heap.size]? = some (.cells #[.slice Tf.a0 (freshOf c).jobs.length Tf.n0, .slice Tf.a1 (freshOf c).released.length Tf.n1, .int .i64 (freshOf c).next, .slice Tf.a2 (freshOf c).ins.length Tf.n2, .slice Tf.a3 (freshOf c).taken.length Tf.n3, .slice Tf.a4 (freshOf c).outs.length Tf.n4, .slice Tf.a5 (freshOf c).events.length Tf.n5] 90)) ((hb_w13.block _ byS).trans byH) (fun f_w13 => ?_); obtain ⟨cf_w13, ff_w13, zf_w13⟩ := blk f_w13; refine have_then (P := w13.heap[w6.heap.size + 1]? = some (.cells #[.slice none 0 0, .slice none 0 0, .int .i64 0, .slice none 0 0, .slice none 0 0, .slice none 0 0, .slice none 0 0] 90)) ((hb_w13.block _ byS).trans byH) (fun r_w13 => ?_); obtain ⟨cr_w13, fr_w13, zr_w13⟩ := blk r_w13; refine have_then (P := Below w.heap.size w w13) byB (fun h_w13 => ?_); have s_w13 := Below.size h_w13; have t_w13 := Below.size hb_w13; (try simp at t_w13); revert hb_w13; intro hb_w13; clear c_w12 cc_w12 fc_w12 d_w12 cd_w12 fd_w12 x_w12 cx_w12 fx_w12 y_w12 cy_w12 fy_w12 f_w12 cf_w12 ff_w12 r_w12 cr_w12 fr_w12)
      go_wp2_with fail
      go_ret
      exact ⟨ret_bool (by simp), byB⟩

theorem lawReadyTells_e (c : TCfg) (S : TCfgS) (dom : Int) (d : TDom) (T : TDomS) (now : Int) (hz : DomSz d) (hev : d.events.length + 40 ≤ 4398046511104) (B : Nat) (w : World) (hB : B ≤ w.heap.size) (hs : TCfg.At (Low B) w c S) (hd : TDom.At (Low B) w d T) (e1 : checkConfig c = 0) (e2 : isDom c.doms dom = true) (e3 : checkBoth c dom d = 0) (hn : 0 ≤ now ∧ now ≤ 100000) :
    Calls Try.prog 11 #[.agg #[.int .i64 c.sets, .int .i64 c.ways, .int .i64 c.doms, .int .i64 c.pad, .int .i64 c.quantum, .slice S.a0 c.slots.length S.n0, .slice S.a1 c.owners.length S.n1, .slice S.a2 c.chans.length S.n2, .slice S.a3 c.tasks.length S.n3], .int .i64 dom, .agg #[.slice T.a0 d.jobs.length T.n0, .slice T.a1 d.released.length T.n1, .int .i64 d.next, .slice T.a2 d.ins.length T.n2, .slice T.a3 d.taken.length T.n3, .slice T.a4 d.outs.length T.n4, .slice T.a5 d.events.length T.n5], .int .i64 now] w fun en w' => en = .returned (.bool true) ∧ Below w.heap.size w w' := by
  have HN := Lib.hid (fun W (h : Below w.heap.size w W) => readyNew c S dom B W (Nat.le_trans hB h.size) (hs.next hB h))
  have HL := Lib.hid (fun W (h : Below w.heap.size w W) => readyRelease c S dom d T now hz hev B W (Nat.le_trans hB h.size) (hs.next hB h) (hd.next hB h))
  have H3 := Lib.hid (fun W (h : Below w.heap.size w W) => readyPick c S dom d T hz B W (Nat.le_trans hB h.size) (hs.next hB h) (hd.next hB h))
  have H4 := Lib.hid (fun W (h : Below w.heap.size w W) => readyDue c S dom d T hz B W (Nat.le_trans hB h.size) (hs.next hB h) (hd.next hB h))
  have H5 := Lib.hid (fun W (h : Below w.heap.size w W) => readyCheck c S dom d T B W (Nat.le_trans hB h.size) (hs.next hB h) (hd.next hB h))
  have HA := Lib.hid (fun W (h : Below w.heap.size w W) => refCheckConfig c S B W (Nat.le_trans hB h.size) (hs.next hB h))
  have HB2 := Lib.hid (fun W (h : Below w.heap.size w W) => refCheckBoth c S dom d T B W (Nat.le_trans hB h.size) (hs.next hB h) (hd.next hB h))
  have H0 := Lib.hid lawReadyBegun
  have HDN := Lib.hid (fun E W T (h : TDom.At (Low W.heap.size) W noDom T) => lawDomainIs noDom T noDomS E (fun _ => rfl) W.heap.size W (Nat.le_refl _) h ((noDom_own W).read fun _ _ h => h.elim))
  have ok := checkConfig_ok e1
  have x1 : newErr c dom = 0 := by simp [newErr, e1, e2]
  have x2 : newOf c dom = freshOf c := by unfold newOf; rw [x1, if_pos rfl]
  rw [x1, x2] at HN
  rw [e1] at HA
  have HF := Lib.hid (fun W => refNewDomain c S ok W)
  have HDX := Lib.hid (fun W T1 T2 (h1 : TDom.At (Low W.heap.size) W (freshOf c) T1) (h2 : TDom.At (Low W.heap.size) W (freshOf c) T2) => lawDomainIs (freshOf c) T1 T2 0 (fun h => absurd rfl h) W.heap.size W (Nat.le_refl _) h1 h2)
  have y1 : relErr c dom d now = 0 := by simp [relErr, e3, inB]; omega
  have y2 : relOf c dom d now = releaseOf c dom now d := by unfold relOf; rw [y1, if_pos rfl]
  rw [y1, y2] at HL
  have HDY := Lib.hid (fun W T1 T2 (h1 : TDom.At (Low W.heap.size) W (releaseOf c dom now d) T1) (h2 : TDom.At (Low W.heap.size) W (releaseOf c dom now d) T2) => lawDomainIs (releaseOf c dom now d) T1 T2 0 (fun h => absurd rfl h) W.heap.size W (Nat.le_refl _) h1 h2)
  obtain ⟨-, hk⟩ := checkBoth_ok e3
  have HP := Lib.hid (fun W (h : Below w.heap.size w W) => refPickOf c S dom d T ok hk B W (Nat.le_trans hB h.size) (hs.next hB h) (hd.next hB h))
  have HU := Lib.hid (fun W (h : Below w.heap.size w W) => refDueOf c S dom d T ok hk B W (Nat.le_trans hB h.size) (hs.next hB h) (hd.next hB h))
  simp only [e3, if_true] at H3 H4 H5 HB2
  have HC1 := Lib.hid (fun W (h : Below w.heap.size w W) => refCopyDomain d T hz B W (Nat.le_trans hB h.size) (hd.next hB h))
  have HR1 := Lib.hid (fun Gc Tc W (h : Below w.heap.size w W) (hO : DomO Gc W d Tc) (ha : ∀ i b, Gc i b → B ≤ b) => refReleaseOf c S dom now d Tc ok hk hn hev Gc B W (Nat.le_trans hB h.size) (hs.next hB h) hO ha)
  have b4 : decide (now < 0) = false := by simpa using hn.1
  have b5 : decide (now > 100000) = false := by simpa using hn.2
  have HX := Lib.hid (fun W => refIsDomain c S dom ok.doms.1 ok.doms.2 W)
  rw [e2] at HX
  clear x1 x2 y1 y2 e1 e2 e3 hz hev hs hd ok hk
  generalize bestOf c d.jobs = PKV at *
  generalize dueOf c dom d = DUV at *
  go_enter Try.func11, Try.ntmps11
  go_wp2_with fail
  (go_at_call 48; refine (HN.out _ byB).mono ?_; rintro e w1 ⟨T1, G1, rfl, hO1, hG1, hb_w1⟩; refine have_then (P := w1.heap[w.heap.size]? = some (.cells #[.int .i64 c.sets, .int .i64 c.ways, .int .i64 c.doms, .int .i64 c.pad, .int .i64 c.quantum, .slice S.a0 c.slots.length S.n0, .slice S.a1 c.owners.length S.n1, .slice S.a2 c.chans.length S.n2, .slice S.a3 c.tasks.length S.n3] 63)) ((hb_w1.block _ byS).trans byH) (fun c_w1 => ?_); obtain ⟨cc_w1, fc_w1, zc_w1⟩ := blk c_w1; refine have_then (P := w1.heap[w.heap.size + 1]? = some (.cells #[.slice T.a0 d.jobs.length T.n0, .slice T.a1 d.released.length T.n1, .int .i64 d.next, .slice T.a2 d.ins.length T.n2, .slice T.a3 d.taken.length T.n3, .slice T.a4 d.outs.length T.n4, .slice T.a5 d.events.length T.n5] 90)) ((hb_w1.block _ byS).trans byH) (fun d_w1 => ?_); obtain ⟨cd_w1, fd_w1, zd_w1⟩ := blk d_w1; refine have_then (P := Below w.heap.size w w1) byB (fun h_w1 => ?_); have s_w1 := Below.size h_w1; have t_w1 := Below.size hb_w1; (try simp at t_w1); revert hb_w1; intro hb_w1)
  have hx1 := hO1.read fun i b hb => hO1.lt i b hb
  clear hO1 hG1
  go_wp2_with fail
  (go_at_call 49; refine (HL.out _ byB).mono ?_; rintro e w2 ⟨T2, G2, rfl, hO2, hG2, hb_w2⟩; refine have_then (P := w2.heap[w.heap.size]? = some (.cells #[.int .i64 c.sets, .int .i64 c.ways, .int .i64 c.doms, .int .i64 c.pad, .int .i64 c.quantum, .slice S.a0 c.slots.length S.n0, .slice S.a1 c.owners.length S.n1, .slice S.a2 c.chans.length S.n2, .slice S.a3 c.tasks.length S.n3] 63)) ((hb_w2.block _ byS).trans byH) (fun c_w2 => ?_); obtain ⟨cc_w2, fc_w2, zc_w2⟩ := blk c_w2; refine have_then (P := w2.heap[w.heap.size + 1]? = some (.cells #[.slice T.a0 d.jobs.length T.n0, .slice T.a1 d.released.length T.n1, .int .i64 d.next, .slice T.a2 d.ins.length T.n2, .slice T.a3 d.taken.length T.n3, .slice T.a4 d.outs.length T.n4, .slice T.a5 d.events.length T.n5] 90)) ((hb_w2.block _ byS).trans byH) (fun d_w2 => ?_); obtain ⟨cd_w2, fd_w2, zd_w2⟩ := blk d_w2; refine have_then (P := w2.heap[w1.heap.size]? = some (.cells #[.slice T1.a0 (freshOf c).jobs.length T1.n0, .slice T1.a1 (freshOf c).released.length T1.n1, .int .i64 (freshOf c).next, .slice T1.a2 (freshOf c).ins.length T1.n2, .slice T1.a3 (freshOf c).taken.length T1.n3, .slice T1.a4 (freshOf c).outs.length T1.n4, .slice T1.a5 (freshOf c).events.length T1.n5] 90)) ((hb_w2.block _ byS).trans byH) (fun x_w2 => ?_); obtain ⟨cx_w2, fx_w2, zx_w2⟩ := blk x_w2; refine have_then (P := Below w.heap.size w w2) byB (fun h_w2 => ?_); have s_w2 := Below.size h_w2; have t_w2 := Below.size hb_w2; (try simp at t_w2); revert hb_w2; intro hb_w2; clear c_w1 cc_w1 fc_w1 d_w1 cd_w1 fd_w1)
  have hy2 := hO2.read fun i b hb => hO2.lt i b hb
  clear hO2 hG2
  go_wp2_with fail
  (go_at_call 50; refine (H3.out _ byB).mono ?_; rintro e w3 ⟨rfl, hb_w3⟩; refine have_then (P := w3.heap[w.heap.size]? = some (.cells #[.int .i64 c.sets, .int .i64 c.ways, .int .i64 c.doms, .int .i64 c.pad, .int .i64 c.quantum, .slice S.a0 c.slots.length S.n0, .slice S.a1 c.owners.length S.n1, .slice S.a2 c.chans.length S.n2, .slice S.a3 c.tasks.length S.n3] 63)) ((hb_w3.block _ byS).trans byH) (fun c_w3 => ?_); obtain ⟨cc_w3, fc_w3, zc_w3⟩ := blk c_w3; refine have_then (P := w3.heap[w.heap.size + 1]? = some (.cells #[.slice T.a0 d.jobs.length T.n0, .slice T.a1 d.released.length T.n1, .int .i64 d.next, .slice T.a2 d.ins.length T.n2, .slice T.a3 d.taken.length T.n3, .slice T.a4 d.outs.length T.n4, .slice T.a5 d.events.length T.n5] 90)) ((hb_w3.block _ byS).trans byH) (fun d_w3 => ?_); obtain ⟨cd_w3, fd_w3, zd_w3⟩ := blk d_w3; refine have_then (P := w3.heap[w1.heap.size]? = some (.cells #[.slice T1.a0 (freshOf c).jobs.length T1.n0, .slice T1.a1 (freshOf c).released.length T1.n1, .int .i64 (freshOf c).next, .slice T1.a2 (freshOf c).ins.length T1.n2, .slice T1.a3 (freshOf c).taken.length T1.n3, .slice T1.a4 (freshOf c).outs.length T1.n4, .slice T1.a5 (freshOf c).events.length T1.n5] 90)) ((hb_w3.block _ byS).trans byH) (fun x_w3 => ?_); obtain ⟨cx_w3, fx_w3, zx_w3⟩ := blk x_w3; refine have_then (P := w3.heap[w2.heap.size]? = some (.cells #[.slice T2.a0 (releaseOf c dom now d).jobs.length T2.n0, .slice T2.a1 (releaseOf c dom now d).released.length T2.n1, .int .i64 (releaseOf c dom now d).next, .slice T2.a2 (releaseOf c dom now d).ins.length T2.n2, .slice T2.a3 (releaseOf c dom now d).taken.length T2.n3, .slice T2.a4 (releaseOf c dom now d).outs.length T2.n4, .slice T2.a5 (releaseOf c dom now d).events.length T2.n5] 90)) ((hb_w3.block _ byS).trans byH) (fun y_w3 => ?_); obtain ⟨cy_w3, fy_w3, zy_w3⟩ := blk y_w3; refine have_then (P := Below w.heap.size w w3) byB (fun h_w3 => ?_); have s_w3 := Below.size h_w3; have t_w3 := Below.size hb_w3; (try simp at t_w3); revert hb_w3; intro hb_w3; clear c_w2 cc_w2 fc_w2 d_w2 cd_w2 fd_w2 x_w2 cx_w2 fx_w2)
  go_wp2_with fail
  (go_at_call 51; refine (H4.out _ byB).mono ?_; rintro e w4 ⟨rfl, hb_w4⟩; refine have_then (P := w4.heap[w.heap.size]? = some (.cells #[.int .i64 c.sets, .int .i64 c.ways, .int .i64 c.doms, .int .i64 c.pad, .int .i64 c.quantum, .slice S.a0 c.slots.length S.n0, .slice S.a1 c.owners.length S.n1, .slice S.a2 c.chans.length S.n2, .slice S.a3 c.tasks.length S.n3] 63)) ((hb_w4.block _ byS).trans byH) (fun c_w4 => ?_); obtain ⟨cc_w4, fc_w4, zc_w4⟩ := blk c_w4; refine have_then (P := w4.heap[w.heap.size + 1]? = some (.cells #[.slice T.a0 d.jobs.length T.n0, .slice T.a1 d.released.length T.n1, .int .i64 d.next, .slice T.a2 d.ins.length T.n2, .slice T.a3 d.taken.length T.n3, .slice T.a4 d.outs.length T.n4, .slice T.a5 d.events.length T.n5] 90)) ((hb_w4.block _ byS).trans byH) (fun d_w4 => ?_); obtain ⟨cd_w4, fd_w4, zd_w4⟩ := blk d_w4; refine have_then (P := w4.heap[w1.heap.size]? = some (.cells #[.slice T1.a0 (freshOf c).jobs.length T1.n0, .slice T1.a1 (freshOf c).released.length T1.n1, .int .i64 (freshOf c).next, .slice T1.a2 (freshOf c).ins.length T1.n2, .slice T1.a3 (freshOf c).taken.length T1.n3, .slice T1.a4 (freshOf c).outs.length T1.n4, .slice T1.a5 (freshOf c).events.length T1.n5] 90)) ((hb_w4.block _ byS).trans byH) (fun x_w4 => ?_); obtain ⟨cx_w4, fx_w4, zx_w4⟩ := blk x_w4; refine have_then (P := w4.heap[w2.heap.size]? = some (.cells #[.slice T2.a0 (releaseOf c dom now d).jobs.length T2.n0, .slice T2.a1 (releaseOf c dom now d).released.length T2.n1, .int .i64 (releaseOf c dom now d).next, .slice T2.a2 (releaseOf c dom now d).ins.length T2.n2, .slice T2.a3 (releaseOf c dom now d).taken.length T2.n3, .slice T2.a4 (releaseOf c dom now d).outs.length T2.n4, .slice T2.a5 (releaseOf c dom now d).events.length T2.n5] 90)) ((hb_w4.block _ byS).trans byH) (fun y_w4 => ?_); obtain ⟨cy_w4, fy_w4, zy_w4⟩ := blk y_w4; refine have_then (P := Below w.heap.size w w4) byB (fun h_w4 => ?_); have s_w4 := Below.size h_w4; have t_w4 := Below.size hb_w4; (try simp at t_w4); revert hb_w4; intro hb_w4; clear c_w3 cc_w3 fc_w3 d_w3 cd_w3 fd_w3 x_w3 cx_w3 fx_w3 y_w3 cy_w3 fy_w3)
  go_wp2_with fail
  refine wp_region_inv [52, 53, 54, 55, 56, 57, 17, 18] (fun l f W => (Below w4.heap.size w4 W ∧ l.size = 8) ∧ Fa l 0 (f 52 = .agg #[.int .i64 c.sets, .int .i64 c.ways, .int .i64 c.doms, .int .i64 c.pad, .int .i64 c.quantum, .slice S.a0 c.slots.length S.n0, .slice S.a1 c.owners.length S.n1, .slice S.a2 c.chans.length S.n2, .slice S.a3 c.tasks.length S.n3]) ∧ Fa l 1 (f 53 = .int .i64 0) ∧ Fa l 2 (f 54 = .agg #[.int .i64 c.sets, .int .i64 c.ways, .int .i64 c.doms, .int .i64 c.pad, .int .i64 c.quantum, .slice S.a0 c.slots.length S.n0, .slice S.a1 c.owners.length S.n1, .slice S.a2 c.chans.length S.n2, .slice S.a3 c.tasks.length S.n3]) ∧ Fa l 3 (f 55 = .int .i64 dom) ∧ Fa l 4 (f 56 = .agg #[.slice T.a0 d.jobs.length T.n0, .slice T.a1 d.released.length T.n1, .int .i64 d.next, .slice T.a2 d.ins.length T.n2, .slice T.a3 d.taken.length T.n3, .slice T.a4 d.outs.length T.n4, .slice T.a5 d.events.length T.n5]) ∧ Fa l 5 (f 57 = .int .i64 0) ∧ Fa l 6 (f 17 = .int .i64 0) ∧ Fa l 7 (f 18 = .int .i64 0)) (by kernel_rfl) (by decide) (by kernel_rfl) (by intro s hs; simp at hs ⊢; omega) ?_ ?_ ?_
  · intro l hz hl
    exact ⟨⟨(Below.refl _ _).drew, hz⟩, .no (hl 0), .no (hl 1), .no (hl 2), .no (hl 3), .no (hl 4), .no (hl 5), .no (hl 6), .no (hl 7)⟩
  · refine StepsL.cons 1 [] rfl (by kernel_rfl) rfl (by intro d hd; injection hd with hd; subst hd; decide) (fun l f W hR hn hb K Q2 hK => ?_) ?_
    · obtain ⟨hS, h0, h1, h2, h3, h4, h5, h6, h7⟩ := hR
      replace hb := Lib.hid hb
      refine ⟨?_⟩
      simp only [putF, Act.put, List.setIfInBounds_toArray, List.set_cons_zero, List.set_cons_succ] at hK ⊢
      replace hK := Lib.hid hK
      obtain ⟨cX, fX, zX⟩ := blk ((hS.1.block _ (blk c_w4).2.2).trans c_w4)
      go_simp
      refine hK.out.out _ _ ⟨⟨hS.1, by simpa using hS.2⟩, ⟨fun _ => rfl⟩, h1.k, h2.k, h3.k, h4.k, h5.k, h6.k, h7.k⟩
    refine StepsL.cons 2 [0] rfl (by kernel_rfl) rfl (by intro d hd; injection hd with hd; subst hd; decide) (fun l f W hR hn hb K Q2 hK => ?_) ?_
    · obtain ⟨hS, h0, h1, h2, h3, h4, h5, h6, h7⟩ := hR
      have q0 := h0.out (hb 0 (by simp))
      replace hb := Lib.hid hb
      refine ⟨?_⟩
      simp only [putF, Act.put, List.setIfInBounds_toArray, List.set_cons_zero, List.set_cons_succ] at hK ⊢
      (try simp only [q0] at hK)
      replace hK := Lib.hid hK
      have HC := HA.out W (h_w4.trans (hS.1.mono s_w4))
      go_simp
      go_at_call 35
      refine HC.mono ?_
      clear HC
      rintro e w3 ⟨rfl, hb3⟩
      try dsimp only
      try simp only [Act.put, List.setIfInBounds_toArray, List.set_cons_zero, List.set_cons_succ]
      refine hK.out.out _ _ ⟨⟨hS.1.trans (hb3.mono hS.1.size), by simpa using hS.2⟩, h0.k, ⟨fun _ => rfl⟩, h2.k, h3.k, h4.k, h5.k, h6.k, h7.k⟩
    refine StepsL.cons 3 [] rfl (by kernel_rfl) rfl (by intro d hd; injection hd with hd; subst hd; decide) (fun l f W hR hn hb K Q2 hK => ?_) ?_
    · obtain ⟨hS, h0, h1, h2, h3, h4, h5, h6, h7⟩ := hR
      replace hb := Lib.hid hb
      refine ⟨?_⟩
      simp only [putF, Act.put, List.setIfInBounds_toArray, List.set_cons_zero, List.set_cons_succ] at hK ⊢
      replace hK := Lib.hid hK
      obtain ⟨cX, fX, zX⟩ := blk ((hS.1.block _ (blk c_w4).2.2).trans c_w4)
      go_simp
      refine hK.out.out _ _ ⟨⟨hS.1, by simpa using hS.2⟩, h0.k, h1.k, ⟨fun _ => rfl⟩, h3.k, h4.k, h5.k, h6.k, h7.k⟩
    refine StepsL.cons 4 [] rfl (by kernel_rfl) rfl (by intro d hd; injection hd with hd; subst hd; decide) (fun l f W hR hn hb K Q2 hK => ?_) ?_
    · obtain ⟨hS, h0, h1, h2, h3, h4, h5, h6, h7⟩ := hR
      replace hb := Lib.hid hb
      refine ⟨?_⟩
      simp only [putF, Act.put, List.setIfInBounds_toArray, List.set_cons_zero, List.set_cons_succ] at hK ⊢
      replace hK := Lib.hid hK
      go_simp
      refine hK.out.out _ _ ⟨⟨hS.1, by simpa using hS.2⟩, h0.k, h1.k, h2.k, ⟨fun _ => rfl⟩, h4.k, h5.k, h6.k, h7.k⟩
    refine StepsL.cons 5 [] rfl (by kernel_rfl) rfl (by intro d hd; injection hd with hd; subst hd; decide) (fun l f W hR hn hb K Q2 hK => ?_) ?_
    · obtain ⟨hS, h0, h1, h2, h3, h4, h5, h6, h7⟩ := hR
      replace hb := Lib.hid hb
      refine ⟨?_⟩
      simp only [putF, Act.put, List.setIfInBounds_toArray, List.set_cons_zero, List.set_cons_succ] at hK ⊢
      replace hK := Lib.hid hK
      obtain ⟨cX, fX, zX⟩ := blk ((hS.1.block _ (blk d_w4).2.2).trans d_w4)
      go_simp
      refine hK.out.out _ _ ⟨⟨hS.1, by simpa using hS.2⟩, h0.k, h1.k, h2.k, h3.k, ⟨fun _ => rfl⟩, h5.k, h6.k, h7.k⟩
    refine StepsL.cons 6 [2, 3, 4, 1] rfl (by kernel_rfl) rfl (by intro d hd; injection hd with hd; subst hd; decide) (fun l f W hR hn hb K Q2 hK => ?_) ?_
    · obtain ⟨hS, h0, h1, h2, h3, h4, h5, h6, h7⟩ := hR
      have q1 := h1.out (hb 1 (by simp))
      have q2 := h2.out (hb 2 (by simp))
      have q3 := h3.out (hb 3 (by simp))
      have q4 := h4.out (hb 4 (by simp))
      replace hb := Lib.hid hb
      refine ⟨?_⟩
      simp only [putF, Act.put, List.setIfInBounds_toArray, List.set_cons_zero, List.set_cons_succ] at hK ⊢
      (try simp only [q1, q2, q3, q4] at hK)
      replace hK := Lib.hid hK
      have HC := HB2.out W (h_w4.trans (hS.1.mono s_w4))
      go_simp
      go_at_call 52
      refine HC.mono ?_
      clear HC
      rintro e w3 ⟨rfl, hb3⟩
      try dsimp only
      try simp only [Act.put, List.setIfInBounds_toArray, List.set_cons_zero, List.set_cons_succ]
      refine hK.out.out _ _ ⟨⟨hS.1.trans (hb3.mono hS.1.size), by simpa using hS.2⟩, h0.k, h1.k, h2.k, h3.k, h4.k, ⟨fun _ => rfl⟩, h6.k, h7.k⟩
    refine StepsL.cons 7 [1, 5, 0, 1] rfl (by kernel_rfl) rfl (by intro d hd; injection hd with hd; subst hd; decide) (fun l f W hR hn hb K Q2 hK => ?_) ?_
    · obtain ⟨hS, h0, h1, h2, h3, h4, h5, h6, h7⟩ := hR
      have q0 := h0.out (hb 0 (by simp))
      have q1 := h1.out (hb 1 (by simp))
      have q5 := h5.out (hb 5 (by simp))
      replace hb := Lib.hid hb
      refine ⟨?_⟩
      simp only [putF, Act.put, List.setIfInBounds_toArray, List.set_cons_zero, List.set_cons_succ] at hK ⊢
      (try simp only [q0, q1, q5] at hK)
      replace hK := Lib.hid hK
      go_simp
      refine hK.out.out _ _ ⟨⟨hS.1, by simpa using hS.2⟩, h0.k, h1.k, h2.k, h3.k, h4.k, h5.k, ⟨fun _ => rfl⟩, h7.k⟩
    refine StepsL.cons 8 [5, 6, 0, 1, 2, 3, 4, 5, 6] rfl (by kernel_rfl) rfl (by intro d hd; injection hd with hd; subst hd; decide) (fun l f W hR hn hb K Q2 hK => ?_) ?_
    · obtain ⟨hS, h0, h1, h2, h3, h4, h5, h6, h7⟩ := hR
      have q0 := h0.out (hb 0 (by simp))
      have q1 := h1.out (hb 1 (by simp))
      have q2 := h2.out (hb 2 (by simp))
      have q3 := h3.out (hb 3 (by simp))
      have q4 := h4.out (hb 4 (by simp))
      have q5 := h5.out (hb 5 (by simp))
      have q6 := h6.out (hb 6 (by simp))
      replace hb := Lib.hid hb
      refine ⟨?_⟩
      simp only [putF, Act.put, List.setIfInBounds_toArray, List.set_cons_zero, List.set_cons_succ] at hK ⊢
      (try simp only [q0, q1, q2, q3, q4, q5, q6] at hK)
      replace hK := Lib.hid hK
      go_simp
      refine hK.out.out _ _ ⟨⟨hS.1, by simpa using hS.2⟩, h0.k, h1.k, h2.k, h3.k, h4.k, h5.k, h6.k, ⟨fun _ => rfl⟩⟩
    exact StepsL.nil
  · intro l f W hR hall
    obtain ⟨hS, h0, h1, h2, h3, h4, h5, h6, h7⟩ := hR
    have q0 := h0.out (hall 0 (by decide))
    have q1 := h1.out (hall 1 (by decide))
    have q2 := h2.out (hall 2 (by decide))
    have q3 := h3.out (hall 3 (by decide))
    have q4 := h4.out (hall 4 (by decide))
    have q5 := h5.out (hall 5 (by decide))
    have q6 := h6.out (hall 6 (by decide))
    have q7 := h7.out (hall 7 (by decide))
    clear h0 h1 h2 h3 h4 h5 h6 h7
    obtain ⟨w5, rfl⟩ : ∃ X, X = W := ⟨_, rfl⟩
    have hb_w5 : Below w4.heap.size w4 w5 := hS.1
    have h_w5 : Below w.heap.size w w5 := h_w4.trans (hb_w5.mono s_w4)
    revert hb_w5; intro hb_w5
    have s_w5 := Below.size h_w5
    have t_w5 := Below.size hb_w5
    have c_w5 := (hb_w5.block _ (blk c_w4).2.2).trans c_w4
    have d_w5 := (hb_w5.block _ (blk d_w4).2.2).trans d_w4
    have x_w5 := (hb_w5.block _ (blk x_w4).2.2).trans x_w4
    have y_w5 := (hb_w5.block _ (blk y_w4).2.2).trans y_w4
    obtain ⟨cc_w5, fc_w5, zc_w5⟩ := blk c_w5
    obtain ⟨cd_w5, fd_w5, zd_w5⟩ := blk d_w5
    obtain ⟨cx_w5, fx_w5, zx_w5⟩ := blk x_w5
    obtain ⟨cy_w5, fy_w5, zy_w5⟩ := blk y_w5
    simp only [putF, Act.put, List.setIfInBounds_toArray, List.set_cons_zero, List.set_cons_succ]
    simp only [q6, q7]
    clear q0 q1 q2 q3 q4 q5 q6 q7 hall hS
    go_wp2_with fail
    (go_at_call 36; refine (HX.out _).mono ?_; rintro e w6 ⟨rfl, hb_w6⟩; refine have_then (P := w6.heap[w.heap.size]? = some (.cells #[.int .i64 c.sets, .int .i64 c.ways, .int .i64 c.doms, .int .i64 c.pad, .int .i64 c.quantum, .slice S.a0 c.slots.length S.n0, .slice S.a1 c.owners.length S.n1, .slice S.a2 c.chans.length S.n2, .slice S.a3 c.tasks.length S.n3] 63)) ((hb_w6.block _ byS).trans byH) (fun c_w6 => ?_); obtain ⟨cc_w6, fc_w6, zc_w6⟩ := blk c_w6; refine have_then (P := w6.heap[w.heap.size + 1]? = some (.cells #[.slice T.a0 d.jobs.length T.n0, .slice T.a1 d.released.length T.n1, .int .i64 d.next, .slice T.a2 d.ins.length T.n2, .slice T.a3 d.taken.length T.n3, .slice T.a4 d.outs.length T.n4, .slice T.a5 d.events.length T.n5] 90)) ((hb_w6.block _ byS).trans byH) (fun d_w6 => ?_); obtain ⟨cd_w6, fd_w6, zd_w6⟩ := blk d_w6; refine have_then (P := w6.heap[w1.heap.size]? = some (.cells #[.slice T1.a0 (freshOf c).jobs.length T1.n0, .slice T1.a1 (freshOf c).released.length T1.n1, .int .i64 (freshOf c).next, .slice T1.a2 (freshOf c).ins.length T1.n2, .slice T1.a3 (freshOf c).taken.length T1.n3, .slice T1.a4 (freshOf c).outs.length T1.n4, .slice T1.a5 (freshOf c).events.length T1.n5] 90)) ((hb_w6.block _ byS).trans byH) (fun x_w6 => ?_); obtain ⟨cx_w6, fx_w6, zx_w6⟩ := blk x_w6; refine have_then (P := w6.heap[w2.heap.size]? = some (.cells #[.slice T2.a0 (releaseOf c dom now d).jobs.length T2.n0, .slice T2.a1 (releaseOf c dom now d).released.length T2.n1, .int .i64 (releaseOf c dom now d).next, .slice T2.a2 (releaseOf c dom now d).ins.length T2.n2, .slice T2.a3 (releaseOf c dom now d).taken.length T2.n3, .slice T2.a4 (releaseOf c dom now d).outs.length T2.n4, .slice T2.a5 (releaseOf c dom now d).events.length T2.n5] 90)) ((hb_w6.block _ byS).trans byH) (fun y_w6 => ?_); obtain ⟨cy_w6, fy_w6, zy_w6⟩ := blk y_w6; refine have_then (P := Below w.heap.size w w6) byB (fun h_w6 => ?_); have s_w6 := Below.size h_w6; have t_w6 := Below.size hb_w6; (try simp at t_w6); revert hb_w6; intro hb_w6; clear c_w4 cc_w4 fc_w4 d_w4 cd_w4 fd_w4 x_w4 cx_w4 fx_w4 y_w4 cy_w4 fy_w4)
    go_wp2_with fail
    (go_at_call 53; refine (HF.out _).mono ?_; rintro e w7 ⟨Tf, Gf, rfl, hOf, hGf, hb_w7⟩; refine have_then (P := w7.heap[w.heap.size]? = some (.cells #[.int .i64 c.sets, .int .i64 c.ways, .int .i64 c.doms, .int .i64 c.pad, .int .i64 c.quantum, .slice S.a0 c.slots.length S.n0, .slice S.a1 c.owners.length S.n1, .slice S.a2 c.chans.length S.n2, .slice S.a3 c.tasks.length S.n3] 63)) ((hb_w7.block _ byS).trans byH) (fun c_w7 => ?_); obtain ⟨cc_w7, fc_w7, zc_w7⟩ := blk c_w7; refine have_then (P := w7.heap[w.heap.size + 1]? = some (.cells #[.slice T.a0 d.jobs.length T.n0, .slice T.a1 d.released.length T.n1, .int .i64 d.next, .slice T.a2 d.ins.length T.n2, .slice T.a3 d.taken.length T.n3, .slice T.a4 d.outs.length T.n4, .slice T.a5 d.events.length T.n5] 90)) ((hb_w7.block _ byS).trans byH) (fun d_w7 => ?_); obtain ⟨cd_w7, fd_w7, zd_w7⟩ := blk d_w7; refine have_then (P := w7.heap[w1.heap.size]? = some (.cells #[.slice T1.a0 (freshOf c).jobs.length T1.n0, .slice T1.a1 (freshOf c).released.length T1.n1, .int .i64 (freshOf c).next, .slice T1.a2 (freshOf c).ins.length T1.n2, .slice T1.a3 (freshOf c).taken.length T1.n3, .slice T1.a4 (freshOf c).outs.length T1.n4, .slice T1.a5 (freshOf c).events.length T1.n5] 90)) ((hb_w7.block _ byS).trans byH) (fun x_w7 => ?_); obtain ⟨cx_w7, fx_w7, zx_w7⟩ := blk x_w7; refine have_then (P := w7.heap[w2.heap.size]? = some (.cells #[.slice T2.a0 (releaseOf c dom now d).jobs.length T2.n0, .slice T2.a1 (releaseOf c dom now d).released.length T2.n1, .int .i64 (releaseOf c dom now d).next, .slice T2.a2 (releaseOf c dom now d).ins.length T2.n2, .slice T2.a3 (releaseOf c dom now d).taken.length T2.n3, .slice T2.a4 (releaseOf c dom now d).outs.length T2.n4, .slice T2.a5 (releaseOf c dom now d).events.length T2.n5] 90)) ((hb_w7.block _ byS).trans byH) (fun y_w7 => ?_); obtain ⟨cy_w7, fy_w7, zy_w7⟩ := blk y_w7; refine have_then (P := w7.heap[w6.heap.size]? = some (.cells #[.slice none 0 0, .slice none 0 0, .int .i64 0, .slice none 0 0, .slice none 0 0, .slice none 0 0, .slice none 0 0] 90)) ((hb_w7.block _ byS).trans byH) (fun f_w7 => ?_); obtain ⟨cf_w7, ff_w7, zf_w7⟩ := blk f_w7; refine have_then (P := w7.heap[w6.heap.size + 1]? = some (.cells #[.slice none 0 0, .slice none 0 0, .int .i64 0, .slice none 0 0, .slice none 0 0, .slice none 0 0, .slice none 0 0] 90)) ((hb_w7.block _ byS).trans byH) (fun r_w7 => ?_); obtain ⟨cr_w7, fr_w7, zr_w7⟩ := blk r_w7; refine have_then (P := Below w.heap.size w w7) byB (fun h_w7 => ?_); have s_w7 := Below.size h_w7; have t_w7 := Below.size hb_w7; (try simp at t_w7); revert hb_w7; intro hb_w7; clear c_w6 cc_w6 fc_w6 d_w6 cd_w6 fd_w6 x_w6 cx_w6 fx_w6 y_w6 cy_w6 fy_w6)
    simp only [World.size_alloc] at hGf
    go_wp2_with fail
    obtain ⟨w7b, e7⟩ : ∃ X, X = (((((((w7.setCell ⟨w6.heap.size, 0, none⟩ (.slice Tf.a0 (freshOf c).jobs.length Tf.n0)).setCell ⟨w6.heap.size, 1, none⟩ (.slice Tf.a1 (freshOf c).released.length Tf.n1)).setCell ⟨w6.heap.size, 2, none⟩ (.int .i64 (freshOf c).next)).setCell ⟨w6.heap.size, 3, none⟩ (.slice Tf.a2 (freshOf c).ins.length Tf.n2)).setCell ⟨w6.heap.size, 4, none⟩ (.slice Tf.a3 (freshOf c).taken.length Tf.n3)).setCell ⟨w6.heap.size, 5, none⟩ (.slice Tf.a4 (freshOf c).outs.length Tf.n4)).setCell ⟨w6.heap.size, 6, none⟩ (.slice Tf.a5 (freshOf c).events.length Tf.n5)) := ⟨_, rfl⟩
    rw [← e7]
    have f_w7b : w7b.heap[w6.heap.size]? = some (.cells #[.slice Tf.a0 (freshOf c).jobs.length Tf.n0, .slice Tf.a1 (freshOf c).released.length Tf.n1, .int .i64 (freshOf c).next, .slice Tf.a2 (freshOf c).ins.length Tf.n2, .slice Tf.a3 (freshOf c).taken.length Tf.n3, .slice Tf.a4 (freshOf c).outs.length Tf.n4, .slice Tf.a5 (freshOf c).events.length Tf.n5] 90) := by rw [e7]; exact dom_set f_w7
    have r_w7b : w7b.heap[w6.heap.size + 1]? = some (.cells #[.slice none 0 0, .slice none 0 0, .int .i64 0, .slice none 0 0, .slice none 0 0, .slice none 0 0, .slice none 0 0] 90) := by rw [e7]; exact (dom_far (by omega)).trans r_w7
    have hb_w7b : Below w6.heap.size w6 w7b := by rw [e7]; exact dom_below byB (Nat.le_refl _)
    have z_w7b : w7b.heap.size = w7.heap.size := by rw [e7]; simp
    have k_w7b : ∀ b, b ≠ w6.heap.size → w7b.heap[b]? = w7.heap[b]? := fun b h => by rw [e7]; exact dom_far h
    clear e7
    have h_w7b : Below w.heap.size w w7b := h_w6.trans (hb_w7b.mono s_w6)
    revert hb_w7b; intro hb_w7b
    have s_w7b := Below.size h_w7b
    have t_w7b := Below.size hb_w7b
    replace hOf := hOf.keep (fun i b h => k_w7b b (by have := hGf i b h; omega)) (Nat.le_of_eq z_w7b.symm)
    have hf7b := hOf.read fun i b h => hOf.lt i b h
    have c_w7b := (k_w7b _ (Nat.ne_of_lt zc_w6)).trans c_w7
    have d_w7b := (k_w7b _ (Nat.ne_of_lt zd_w6)).trans d_w7
    have x_w7b := (k_w7b _ (Nat.ne_of_lt zx_w6)).trans x_w7
    have y_w7b := (k_w7b _ (Nat.ne_of_lt zy_w6)).trans y_w7
    obtain ⟨cc_w7b, fc_w7b, zc_w7b⟩ := blk c_w7b
    obtain ⟨cd_w7b, fd_w7b, zd_w7b⟩ := blk d_w7b
    obtain ⟨cx_w7b, fx_w7b, zx_w7b⟩ := blk x_w7b
    obtain ⟨cy_w7b, fy_w7b, zy_w7b⟩ := blk y_w7b
    obtain ⟨cf_w7b, ff_w7b, zf_w7b⟩ := blk f_w7b
    obtain ⟨cr_w7b, fr_w7b, zr_w7b⟩ := blk r_w7b
    refine wp_region_inv [83, 84, 85, 86, 87, 88] (fun l f W => (Below (w6.heap.size + 1) w7b W ∧ (∀ b, b < w7b.heap.size → b ≠ w6.heap.size + 1 → W.heap[b]? = w7b.heap[b]?) ∧ (¬ Lst l 6 → W.heap[w6.heap.size + 1]? = some (.cells #[.slice none 0 0, .slice none 0 0, .int .i64 0, .slice none 0 0, .slice none 0 0, .slice none 0 0, .slice none 0 0] 90)) ∧ l.size = 7) ∧ Fa l 0 (f 83 = .agg #[.int .i64 c.sets, .int .i64 c.ways, .int .i64 c.doms, .int .i64 c.pad, .int .i64 c.quantum, .slice S.a0 c.slots.length S.n0, .slice S.a1 c.owners.length S.n1, .slice S.a2 c.chans.length S.n2, .slice S.a3 c.tasks.length S.n3]) ∧ Fa l 1 (f 84 = .int .i64 dom) ∧ Fa l 2 (f 85 = .agg #[.slice T.a0 d.jobs.length T.n0, .slice T.a1 d.released.length T.n1, .int .i64 d.next, .slice T.a2 d.ins.length T.n2, .slice T.a3 d.taken.length T.n3, .slice T.a4 d.outs.length T.n4, .slice T.a5 d.events.length T.n5]) ∧ Fa l 3 (∃ (Tc : TDomS) (Gc : Nat → Nat → Prop), f 86 = .agg #[.slice Tc.a0 d.jobs.length Tc.n0, .slice Tc.a1 d.released.length Tc.n1, .int .i64 d.next, .slice Tc.a2 d.ins.length Tc.n2, .slice Tc.a3 d.taken.length Tc.n3, .slice Tc.a4 d.outs.length Tc.n4, .slice Tc.a5 d.events.length Tc.n5] ∧ (¬ Lst l 5 → DomO Gc W d Tc ∧ ∀ i b, Gc i b → w7b.heap.size ≤ b)) ∧ Fa l 4 (f 87 = .int .i64 now) ∧ Fa l 5 (Lst l 3 ∧ ∃ (Tr : TDomS) (Gr : Nat → Nat → Prop), f 88 = .agg #[.slice Tr.a0 (releaseOf c dom now d).jobs.length Tr.n0, .slice Tr.a1 (releaseOf c dom now d).released.length Tr.n1, .int .i64 (releaseOf c dom now d).next, .slice Tr.a2 (releaseOf c dom now d).ins.length Tr.n2, .slice Tr.a3 (releaseOf c dom now d).taken.length Tr.n3, .slice Tr.a4 (releaseOf c dom now d).outs.length Tr.n4, .slice Tr.a5 (releaseOf c dom now d).events.length Tr.n5] ∧ (¬ Lst l 6 → DomO Gr W (releaseOf c dom now d) Tr ∧ ∀ i b, Gr i b → w7b.heap.size ≤ b)) ∧ Fa l 6 (Lst l 5 ∧ Lst l 3 ∧ ∃ (Tr : TDomS) (Gr : Nat → Nat → Prop), W.heap[w6.heap.size + 1]? = some (.cells #[.slice Tr.a0 (releaseOf c dom now d).jobs.length Tr.n0, .slice Tr.a1 (releaseOf c dom now d).released.length Tr.n1, .int .i64 (releaseOf c dom now d).next, .slice Tr.a2 (releaseOf c dom now d).ins.length Tr.n2, .slice Tr.a3 (releaseOf c dom now d).taken.length Tr.n3, .slice Tr.a4 (releaseOf c dom now d).outs.length Tr.n4, .slice Tr.a5 (releaseOf c dom now d).events.length Tr.n5] 90) ∧ DomO Gr W (releaseOf c dom now d) Tr)) (by kernel_rfl) (by decide) (by kernel_rfl) (by intro s hs; simp at hs ⊢; omega) ?_ ?_ ?_
    · intro l hz hl
      exact ⟨⟨(Below.refl _ _).drew, fun _ _ _ => rfl, fun _ => r_w7b, hz⟩, .no (hl 0), .no (hl 1), .no (hl 2), .no (hl 3), .no (hl 4), .no (hl 5), .no (hl 6)⟩
    · refine StepsL.cons 1 [] rfl (by kernel_rfl) rfl (by intro d hd; injection hd with hd; subst hd; decide) (fun l f W hR hn hb K Q2 hK => ?_) ?_
      · obtain ⟨hS, h0, h1, h2, h3, h4, h5, h6⟩ := hR
        replace hb := Lib.hid hb
        refine ⟨?_⟩
        simp only [putF, Act.put, List.setIfInBounds_toArray, List.set_cons_zero, List.set_cons_succ] at hK ⊢
        replace hK := Lib.hid hK
        obtain ⟨cX, fX, zX⟩ := blk ((hS.1.block _ byS).trans c_w7b)
        go_simp
        refine hK.out.out _ _ ⟨⟨hS.1, hS.2.1, fun h => hS.2.2.1 (fun h2 => h h2.fwd), by simpa using hS.2.2.2⟩, ⟨fun _ => rfl⟩, h1.k, h2.k, ⟨fun hl => let ⟨a, b, e, p⟩ := (h3.out (hl.back (by decide))); ⟨a, b, e, fun h => p (fun h2 => h h2.fwd)⟩⟩, h4.k, ⟨fun hl => let ⟨l3, a, b, e, p⟩ := (h5.out (hl.back (by decide))); ⟨l3.fwd, a, b, e, fun h => p (fun h2 => h h2.fwd)⟩⟩, ⟨fun hl => ⟨(h6.out (hl.back (by decide))).1.fwd, (h6.out (hl.back (by decide))).2.1.fwd, (h6.out (hl.back (by decide))).2.2⟩⟩⟩
      refine StepsL.cons 2 [] rfl (by kernel_rfl) rfl (by intro d hd; injection hd with hd; subst hd; decide) (fun l f W hR hn hb K Q2 hK => ?_) ?_
      · obtain ⟨hS, h0, h1, h2, h3, h4, h5, h6⟩ := hR
        replace hb := Lib.hid hb
        refine ⟨?_⟩
        simp only [putF, Act.put, List.setIfInBounds_toArray, List.set_cons_zero, List.set_cons_succ] at hK ⊢
        replace hK := Lib.hid hK
        go_simp
        refine hK.out.out _ _ ⟨⟨hS.1, hS.2.1, fun h => hS.2.2.1 (fun h2 => h h2.fwd), by simpa using hS.2.2.2⟩, h0.k, ⟨fun _ => rfl⟩, h2.k, ⟨fun hl => let ⟨a, b, e, p⟩ := (h3.out (hl.back (by decide))); ⟨a, b, e, fun h => p (fun h2 => h h2.fwd)⟩⟩, h4.k, ⟨fun hl => let ⟨l3, a, b, e, p⟩ := (h5.out (hl.back (by decide))); ⟨l3.fwd, a, b, e, fun h => p (fun h2 => h h2.fwd)⟩⟩, ⟨fun hl => ⟨(h6.out (hl.back (by decide))).1.fwd, (h6.out (hl.back (by decide))).2.1.fwd, (h6.out (hl.back (by decide))).2.2⟩⟩⟩
      refine StepsL.cons 3 [] rfl (by kernel_rfl) rfl (by intro d hd; injection hd with hd; subst hd; decide) (fun l f W hR hn hb K Q2 hK => ?_) ?_
      · obtain ⟨hS, h0, h1, h2, h3, h4, h5, h6⟩ := hR
        replace hb := Lib.hid hb
        refine ⟨?_⟩
        simp only [putF, Act.put, List.setIfInBounds_toArray, List.set_cons_zero, List.set_cons_succ] at hK ⊢
        replace hK := Lib.hid hK
        obtain ⟨cX, fX, zX⟩ := blk ((hS.1.block _ byS).trans d_w7b)
        go_simp
        refine hK.out.out _ _ ⟨⟨hS.1, hS.2.1, fun h => hS.2.2.1 (fun h2 => h h2.fwd), by simpa using hS.2.2.2⟩, h0.k, h1.k, ⟨fun _ => rfl⟩, ⟨fun hl => let ⟨a, b, e, p⟩ := (h3.out (hl.back (by decide))); ⟨a, b, e, fun h => p (fun h2 => h h2.fwd)⟩⟩, h4.k, ⟨fun hl => let ⟨l3, a, b, e, p⟩ := (h5.out (hl.back (by decide))); ⟨l3.fwd, a, b, e, fun h => p (fun h2 => h h2.fwd)⟩⟩, ⟨fun hl => ⟨(h6.out (hl.back (by decide))).1.fwd, (h6.out (hl.back (by decide))).2.1.fwd, (h6.out (hl.back (by decide))).2.2⟩⟩⟩
      refine StepsL.cons 4 [2] rfl (by kernel_rfl) rfl (by intro d hd; injection hd with hd; subst hd; decide) (fun l f W hR hn hb K Q2 hK => ?_) ?_
      · obtain ⟨hS, h0, h1, h2, h3, h4, h5, h6⟩ := hR
        have q2 := h2.out (hb 2 (by simp))
        have hsz := hS.1.size
        replace hb := Lib.hid hb
        refine ⟨?_⟩
        simp only [putF, Act.put, List.setIfInBounds_toArray, List.set_cons_zero, List.set_cons_succ] at hK ⊢
        (try simp only [q2] at hK)
        replace hK := Lib.hid hK
        have HC := HC1.out W (h_w7b.trans (hS.1.mono (by omega)))
        go_simp
        go_at_call 55
        refine HC.mono ?_
        clear HC
        rintro e w3 ⟨Tc, Gc, rfl, hOc, hGc, hb3⟩
        try dsimp only
        try simp only [Act.put, List.setIfInBounds_toArray, List.set_cons_zero, List.set_cons_succ]
        refine hK.out.out _ _ ⟨⟨hS.1.trans (hb3.mono (by have := hS.1.size; omega)), fun b h1 h2 => (hb3.block b (by have := hS.1.size; omega)).trans (hS.2.1 b h1 h2), fun h => (hb3.block _ (by have := hS.1.size; omega)).trans (hS.2.2.1 fun h2 => h h2.fwd), by simpa using hS.2.2.2⟩, h0.k, h1.k, h2.k, ⟨fun _ => ⟨Tc, Gc, rfl, fun _ => ⟨hOc, fun i b h => by have := hGc i b h; omega⟩⟩⟩, h4.k, ⟨fun hl => absurd (h5.out (hl.back (by decide))).1 hn⟩, ⟨fun hl => absurd (h6.out (hl.back (by decide))).2.1 hn⟩⟩
      refine StepsL.cons 5 [] rfl (by kernel_rfl) rfl (by intro d hd; injection hd with hd; subst hd; decide) (fun l f W hR hn hb K Q2 hK => ?_) ?_
      · obtain ⟨hS, h0, h1, h2, h3, h4, h5, h6⟩ := hR
        replace hb := Lib.hid hb
        refine ⟨?_⟩
        simp only [putF, Act.put, List.setIfInBounds_toArray, List.set_cons_zero, List.set_cons_succ] at hK ⊢
        replace hK := Lib.hid hK
        go_simp
        refine hK.out.out _ _ ⟨⟨hS.1, hS.2.1, fun h => hS.2.2.1 (fun h2 => h h2.fwd), by simpa using hS.2.2.2⟩, h0.k, h1.k, h2.k, ⟨fun hl => let ⟨a, b, e, p⟩ := (h3.out (hl.back (by decide))); ⟨a, b, e, fun h => p (fun h2 => h h2.fwd)⟩⟩, ⟨fun _ => rfl⟩, ⟨fun hl => let ⟨l3, a, b, e, p⟩ := (h5.out (hl.back (by decide))); ⟨l3.fwd, a, b, e, fun h => p (fun h2 => h h2.fwd)⟩⟩, ⟨fun hl => ⟨(h6.out (hl.back (by decide))).1.fwd, (h6.out (hl.back (by decide))).2.1.fwd, (h6.out (hl.back (by decide))).2.2⟩⟩⟩
      refine StepsL.cons 6 [0, 1, 3, 4, 3] rfl (by kernel_rfl) rfl (by intro d hd; injection hd with hd; subst hd; decide) (fun l f W hR hn hb K Q2 hK => ?_) ?_
      · obtain ⟨hS, h0, h1, h2, h3, h4, h5, h6⟩ := hR
        have q0 := h0.out (hb 0 (by simp))
        have q1 := h1.out (hb 1 (by simp))
        have q3 := h3.out (hb 3 (by simp))
        have q4 := h4.out (hb 4 (by simp))
        have hb3 := hb 3 (by simp)
        have L3 := hb3
        obtain ⟨Tc, Gc, e3, hOc⟩ := q3
        obtain ⟨hOc, hGc⟩ := hOc hn
        have hsz := hS.1.size
        clear hb3
        replace hb := Lib.hid hb
        refine ⟨?_⟩
        simp only [putF, Act.put, List.setIfInBounds_toArray, List.set_cons_zero, List.set_cons_succ] at hK ⊢
        (try simp only [q0, q1, q4, e3] at hK)
        replace hK := Lib.hid hK
        have HC := HR1.out Gc Tc W (h_w7b.trans (hS.1.mono (by omega))) hOc (fun i b h => by have := hGc i b h; omega)
        simp only [e3]
        go_simp
        go_at_call 54
        refine HC.mono ?_
        clear HC
        rintro e w3 ⟨Tr, Gr, rfl, hOr, hE3⟩
        try dsimp only
        try simp only [Act.put, List.setIfInBounds_toArray, List.set_cons_zero, List.set_cons_succ]
        refine hK.out.out _ _ ⟨⟨hS.1.trans (hE3.below' (by omega) (fun i b h => by have := hGc i b h; omega)), fun b h1 h2 => (hE3.keep b (by omega) (fun i h => by have := hGc i b h; omega)).trans (hS.2.1 b h1 h2), fun h => (hE3.keep _ (by omega) (fun i h => by have := hGc i _ h; omega)).trans (hS.2.2.1 fun h2 => h h2.fwd), by simpa using hS.2.2.2⟩, h0.k, h1.k, h2.k, ⟨fun hl => let ⟨a, b, e, p⟩ := (h3.out (hl.back (by decide))); ⟨a, b, e, fun h => absurd (Lst.self (by rw [hS.2.2.2]; omega)) h⟩⟩, h4.k, ⟨fun _ => ⟨L3.fwd, Tr, Gr, rfl, fun _ => ⟨hOr, fun i b h => by rcases hE3.grow i b h with h | h; exact hGc i b h; omega⟩⟩⟩, ⟨fun hl => absurd (h6.out (hl.back (by decide))).1 hn⟩⟩
      refine StepsL.cons 7 [5, 5, 0, 1, 2, 3, 4, 5] rfl (by kernel_rfl) rfl (by intro d hd; cases hd) (fun l f W hR hn hb K Q2 hK => ?_) ?_
      · obtain ⟨hS, h0, h1, h2, h3, h4, h5, h6⟩ := hR
        have q0 := h0.out (hb 0 (by simp))
        have q1 := h1.out (hb 1 (by simp))
        have q2 := h2.out (hb 2 (by simp))
        have q3 := h3.out (hb 3 (by simp))
        have q4 := h4.out (hb 4 (by simp))
        have q5 := h5.out (hb 5 (by simp))
        have hb5 := hb 5 (by simp)
        have L5 := hb5
        obtain ⟨L3, Tr, Gr, e5, hOr⟩ := q5
        obtain ⟨hOr, hGr⟩ := hOr hn
        clear q3
        have hbx := hS.2.2.1 hn
        replace hb := Lib.hid hb
        refine ⟨?_⟩
        simp only [putF, Act.put, List.setIfInBounds_toArray, List.set_cons_zero, List.set_cons_succ] at hK ⊢
        (try simp only [q0, q1, q2, q4, e5] at hK)
        replace hK := Lib.hid hK
        obtain ⟨cX, fX, zX⟩ := blk hbx
        go_simp
        refine hK.out.out undef _ ⟨⟨dom_below hS.1 (Nat.le_refl _), fun b h1 h2 => (dom_far h2).trans (hS.2.1 b h1 h2), fun h => absurd (Lst.self (by rw [hS.2.2.2]; omega)) h, by simpa using hS.2.2.2⟩, h0.k, h1.k, h2.k, ⟨fun hl => let ⟨a, b, e, p⟩ := (h3.out (hl.back (by decide))); ⟨a, b, e, fun h => absurd (hb.out 5 (by simp)).fwd h⟩⟩, h4.k, ⟨fun hl => let ⟨l3, a, b, e, p⟩ := (h5.out (hl.back (by decide))); ⟨l3.fwd, a, b, e, fun h => absurd (Lst.self (by rw [hS.2.2.2]; omega)) h⟩⟩, ⟨fun _ => ⟨L5.fwd, L3.fwd, Tr, Gr, dom_set hbx, hOr.keep (fun i b h => dom_far (by have := hGr i b h; omega)) (by simp)⟩⟩⟩
      exact StepsL.nil
    · intro l f W hR hall
      obtain ⟨hS, h0, h1, h2, h3, h4, h5, h6⟩ := hR
      have q0 := h0.out (hall 0 (by decide))
      have q1 := h1.out (hall 1 (by decide))
      have q2 := h2.out (hall 2 (by decide))
      have q3 := h3.out (hall 3 (by decide))
      have q4 := h4.out (hall 4 (by decide))
      have q5 := h5.out (hall 5 (by decide))
      have q6 := h6.out (hall 6 (by decide))
      clear h0 h1 h2 h3 h4 h5 h6
      obtain ⟨_, _, Tr, Gr, hbr, hOr⟩ := q6
      obtain ⟨w8, rfl⟩ : ∃ X, X = W := ⟨_, rfl⟩
      have hb_w8 : Below (w6.heap.size + 1) w7b w8 := hS.1
      have hk_w8 := hS.2.1
      have h_w8 : Below w.heap.size w w8 := h_w7b.trans (hb_w8.mono (by omega))
      revert hb_w8; intro hb_w8
      have s_w8 := Below.size h_w8
      have t_w8 := Below.size hb_w8
      have c_w8 := (hk_w8 _ (blk c_w7b).2.2 (by omega)).trans c_w7b
      have d_w8 := (hk_w8 _ (blk d_w7b).2.2 (by omega)).trans d_w7b
      have x_w8 := (hk_w8 _ (blk x_w7b).2.2 (by omega)).trans x_w7b
      have y_w8 := (hk_w8 _ (blk y_w7b).2.2 (by omega)).trans y_w7b
      have f_w8 := (hk_w8 _ (blk f_w7b).2.2 (by omega)).trans f_w7b
      have r_w8 := hbr
      have hdf8 : TDom.At (Low w8.heap.size) w8 (freshOf c) Tf := (hOf.keep (fun i b h => hk_w8 b (hOf.lt i b h) (by have := hGf i b h; omega)) t_w8).read fun i b h => Nat.lt_of_lt_of_le (hOf.lt i b h) t_w8
      have hdr8 : TDom.At (Low w8.heap.size) w8 (releaseOf c dom now d) Tr := hOr.read fun i b h => hOr.lt i b h
      obtain ⟨cc_w8, fc_w8, zc_w8⟩ := blk c_w8
      obtain ⟨cd_w8, fd_w8, zd_w8⟩ := blk d_w8
      obtain ⟨cx_w8, fx_w8, zx_w8⟩ := blk x_w8
      obtain ⟨cy_w8, fy_w8, zy_w8⟩ := blk y_w8
      obtain ⟨cf_w8, ff_w8, zf_w8⟩ := blk f_w8
      obtain ⟨cr_w8, fr_w8, zr_w8⟩ := blk r_w8
      simp only [putF, Act.put, List.setIfInBounds_toArray, List.set_cons_zero, List.set_cons_succ]
      clear q0 q1 q2 q3 q4 q5 hall hS hbr hOr hk_w8
      go_wp2_with fail
      refine wp_region_inv [91, 92, 93, 94, 95, 96, 97, 22, 23] (fun l f W => (Below w8.heap.size w8 W ∧ l.size = 9) ∧ Fa l 0 (f 91 = .agg #[.int .i64 c.sets, .int .i64 c.ways, .int .i64 c.doms, .int .i64 c.pad, .int .i64 c.quantum, .slice S.a0 c.slots.length S.n0, .slice S.a1 c.owners.length S.n1, .slice S.a2 c.chans.length S.n2, .slice S.a3 c.tasks.length S.n3]) ∧ Fa l 1 (f 92 = .agg #[.slice T.a0 d.jobs.length T.n0, .slice T.a1 d.released.length T.n1, .int .i64 d.next, .slice T.a2 d.ins.length T.n2, .slice T.a3 d.taken.length T.n3, .slice T.a4 d.outs.length T.n4, .slice T.a5 d.events.length T.n5]) ∧ Fa l 2 (f 93 = .int .i64 PKV) ∧ Fa l 3 (f 94 = .agg #[.int .i64 c.sets, .int .i64 c.ways, .int .i64 c.doms, .int .i64 c.pad, .int .i64 c.quantum, .slice S.a0 c.slots.length S.n0, .slice S.a1 c.owners.length S.n1, .slice S.a2 c.chans.length S.n2, .slice S.a3 c.tasks.length S.n3]) ∧ Fa l 4 (f 95 = .int .i64 dom) ∧ Fa l 5 (f 96 = .agg #[.slice T.a0 d.jobs.length T.n0, .slice T.a1 d.released.length T.n1, .int .i64 d.next, .slice T.a2 d.ins.length T.n2, .slice T.a3 d.taken.length T.n3, .slice T.a4 d.outs.length T.n4, .slice T.a5 d.events.length T.n5]) ∧ Fa l 6 (f 97 = .int .i64 DUV) ∧ Fa l 7 (f 22 = .int .i64 PKV) ∧ Fa l 8 (f 23 = .int .i64 DUV)) (by kernel_rfl) (by decide) (by kernel_rfl) (by intro s hs; simp at hs ⊢; omega) ?_ ?_ ?_
      · intro l hz hl
        exact ⟨⟨(Below.refl _ _).drew, hz⟩, .no (hl 0), .no (hl 1), .no (hl 2), .no (hl 3), .no (hl 4), .no (hl 5), .no (hl 6), .no (hl 7), .no (hl 8)⟩
      · refine StepsL.cons 1 [] rfl (by kernel_rfl) rfl (by intro d hd; injection hd with hd; subst hd; decide) (fun l f W hR hn hb K Q2 hK => ?_) ?_
        · obtain ⟨hS, h0, h1, h2, h3, h4, h5, h6, h7, h8⟩ := hR
          replace hb := Lib.hid hb
          refine ⟨?_⟩
          simp only [putF, Act.put, List.setIfInBounds_toArray, List.set_cons_zero, List.set_cons_succ] at hK ⊢
          replace hK := Lib.hid hK
          obtain ⟨cX, fX, zX⟩ := blk ((hS.1.block _ (blk c_w8).2.2).trans c_w8)
          go_simp
          refine hK.out.out _ _ ⟨⟨hS.1, by simpa using hS.2⟩, ⟨fun _ => rfl⟩, h1.k, h2.k, h3.k, h4.k, h5.k, h6.k, h7.k, h8.k⟩
        refine StepsL.cons 2 [] rfl (by kernel_rfl) rfl (by intro d hd; injection hd with hd; subst hd; decide) (fun l f W hR hn hb K Q2 hK => ?_) ?_
        · obtain ⟨hS, h0, h1, h2, h3, h4, h5, h6, h7, h8⟩ := hR
          replace hb := Lib.hid hb
          refine ⟨?_⟩
          simp only [putF, Act.put, List.setIfInBounds_toArray, List.set_cons_zero, List.set_cons_succ] at hK ⊢
          replace hK := Lib.hid hK
          obtain ⟨cX, fX, zX⟩ := blk ((hS.1.block _ (blk d_w8).2.2).trans d_w8)
          go_simp
          refine hK.out.out _ _ ⟨⟨hS.1, by simpa using hS.2⟩, h0.k, ⟨fun _ => rfl⟩, h2.k, h3.k, h4.k, h5.k, h6.k, h7.k, h8.k⟩
        refine StepsL.cons 3 [0, 1] rfl (by kernel_rfl) rfl (by intro d hd; injection hd with hd; subst hd; decide) (fun l f W hR hn hb K Q2 hK => ?_) ?_
        · obtain ⟨hS, h0, h1, h2, h3, h4, h5, h6, h7, h8⟩ := hR
          have q0 := h0.out (hb 0 (by simp))
          have q1 := h1.out (hb 1 (by simp))
          replace hb := Lib.hid hb
          refine ⟨?_⟩
          simp only [putF, Act.put, List.setIfInBounds_toArray, List.set_cons_zero, List.set_cons_succ] at hK ⊢
          (try simp only [q0, q1] at hK)
          replace hK := Lib.hid hK
          have HC := HP.out W (h_w8.trans (hS.1.mono s_w8))
          go_simp
          go_at_call 56
          refine HC.mono ?_
          clear HC
          rintro e w3 ⟨rfl, hb3⟩
          try dsimp only
          try simp only [Act.put, List.setIfInBounds_toArray, List.set_cons_zero, List.set_cons_succ]
          refine hK.out.out _ _ ⟨⟨hS.1.trans (hb3.mono hS.1.size), by simpa using hS.2⟩, h0.k, h1.k, ⟨fun _ => rfl⟩, h3.k, h4.k, h5.k, h6.k, h7.k, h8.k⟩
        refine StepsL.cons 4 [] rfl (by kernel_rfl) rfl (by intro d hd; injection hd with hd; subst hd; decide) (fun l f W hR hn hb K Q2 hK => ?_) ?_
        · obtain ⟨hS, h0, h1, h2, h3, h4, h5, h6, h7, h8⟩ := hR
          replace hb := Lib.hid hb
          refine ⟨?_⟩
          simp only [putF, Act.put, List.setIfInBounds_toArray, List.set_cons_zero, List.set_cons_succ] at hK ⊢
          replace hK := Lib.hid hK
          obtain ⟨cX, fX, zX⟩ := blk ((hS.1.block _ (blk c_w8).2.2).trans c_w8)
          go_simp
          refine hK.out.out _ _ ⟨⟨hS.1, by simpa using hS.2⟩, h0.k, h1.k, h2.k, ⟨fun _ => rfl⟩, h4.k, h5.k, h6.k, h7.k, h8.k⟩
        refine StepsL.cons 5 [] rfl (by kernel_rfl) rfl (by intro d hd; injection hd with hd; subst hd; decide) (fun l f W hR hn hb K Q2 hK => ?_) ?_
        · obtain ⟨hS, h0, h1, h2, h3, h4, h5, h6, h7, h8⟩ := hR
          replace hb := Lib.hid hb
          refine ⟨?_⟩
          simp only [putF, Act.put, List.setIfInBounds_toArray, List.set_cons_zero, List.set_cons_succ] at hK ⊢
          replace hK := Lib.hid hK
          go_simp
          refine hK.out.out _ _ ⟨⟨hS.1, by simpa using hS.2⟩, h0.k, h1.k, h2.k, h3.k, ⟨fun _ => rfl⟩, h5.k, h6.k, h7.k, h8.k⟩
        refine StepsL.cons 6 [] rfl (by kernel_rfl) rfl (by intro d hd; injection hd with hd; subst hd; decide) (fun l f W hR hn hb K Q2 hK => ?_) ?_
        · obtain ⟨hS, h0, h1, h2, h3, h4, h5, h6, h7, h8⟩ := hR
          replace hb := Lib.hid hb
          refine ⟨?_⟩
          simp only [putF, Act.put, List.setIfInBounds_toArray, List.set_cons_zero, List.set_cons_succ] at hK ⊢
          replace hK := Lib.hid hK
          obtain ⟨cX, fX, zX⟩ := blk ((hS.1.block _ (blk d_w8).2.2).trans d_w8)
          go_simp
          refine hK.out.out _ _ ⟨⟨hS.1, by simpa using hS.2⟩, h0.k, h1.k, h2.k, h3.k, h4.k, ⟨fun _ => rfl⟩, h6.k, h7.k, h8.k⟩
        refine StepsL.cons 7 [3, 4, 5, 2] rfl (by kernel_rfl) rfl (by intro d hd; injection hd with hd; subst hd; decide) (fun l f W hR hn hb K Q2 hK => ?_) ?_
        · obtain ⟨hS, h0, h1, h2, h3, h4, h5, h6, h7, h8⟩ := hR
          have q2 := h2.out (hb 2 (by simp))
          have q3 := h3.out (hb 3 (by simp))
          have q4 := h4.out (hb 4 (by simp))
          have q5 := h5.out (hb 5 (by simp))
          replace hb := Lib.hid hb
          refine ⟨?_⟩
          simp only [putF, Act.put, List.setIfInBounds_toArray, List.set_cons_zero, List.set_cons_succ] at hK ⊢
          (try simp only [q2, q3, q4, q5] at hK)
          replace hK := Lib.hid hK
          have HC := HU.out W (h_w8.trans (hS.1.mono s_w8))
          go_simp
          go_at_call 57
          refine HC.mono ?_
          clear HC
          rintro e w3 ⟨rfl, hb3⟩
          try dsimp only
          try simp only [Act.put, List.setIfInBounds_toArray, List.set_cons_zero, List.set_cons_succ]
          refine hK.out.out _ _ ⟨⟨hS.1.trans (hb3.mono hS.1.size), by simpa using hS.2⟩, h0.k, h1.k, h2.k, h3.k, h4.k, h5.k, ⟨fun _ => rfl⟩, h7.k, h8.k⟩
        refine StepsL.cons 8 [2, 6, 0, 1, 2] rfl (by kernel_rfl) rfl (by intro d hd; injection hd with hd; subst hd; decide) (fun l f W hR hn hb K Q2 hK => ?_) ?_
        · obtain ⟨hS, h0, h1, h2, h3, h4, h5, h6, h7, h8⟩ := hR
          have q0 := h0.out (hb 0 (by simp))
          have q1 := h1.out (hb 1 (by simp))
          have q2 := h2.out (hb 2 (by simp))
          have q6 := h6.out (hb 6 (by simp))
          replace hb := Lib.hid hb
          refine ⟨?_⟩
          simp only [putF, Act.put, List.setIfInBounds_toArray, List.set_cons_zero, List.set_cons_succ] at hK ⊢
          (try simp only [q0, q1, q2, q6] at hK)
          replace hK := Lib.hid hK
          go_simp
          refine hK.out.out _ _ ⟨⟨hS.1, by simpa using hS.2⟩, h0.k, h1.k, h2.k, h3.k, h4.k, h5.k, h6.k, ⟨fun _ => rfl⟩, h8.k⟩
        refine StepsL.cons 9 [6, 7, 0, 1, 2, 3, 4, 5, 6, 7] rfl (by kernel_rfl) rfl (by intro d hd; injection hd with hd; subst hd; decide) (fun l f W hR hn hb K Q2 hK => ?_) ?_
        · obtain ⟨hS, h0, h1, h2, h3, h4, h5, h6, h7, h8⟩ := hR
          have q0 := h0.out (hb 0 (by simp))
          have q1 := h1.out (hb 1 (by simp))
          have q2 := h2.out (hb 2 (by simp))
          have q3 := h3.out (hb 3 (by simp))
          have q4 := h4.out (hb 4 (by simp))
          have q5 := h5.out (hb 5 (by simp))
          have q6 := h6.out (hb 6 (by simp))
          have q7 := h7.out (hb 7 (by simp))
          replace hb := Lib.hid hb
          refine ⟨?_⟩
          simp only [putF, Act.put, List.setIfInBounds_toArray, List.set_cons_zero, List.set_cons_succ] at hK ⊢
          (try simp only [q0, q1, q2, q3, q4, q5, q6, q7] at hK)
          replace hK := Lib.hid hK
          go_simp
          refine hK.out.out _ _ ⟨⟨hS.1, by simpa using hS.2⟩, h0.k, h1.k, h2.k, h3.k, h4.k, h5.k, h6.k, h7.k, ⟨fun _ => rfl⟩⟩
        exact StepsL.nil
      · intro l f W hR hall
        obtain ⟨hS, h0, h1, h2, h3, h4, h5, h6, h7, h8⟩ := hR
        have q0 := h0.out (hall 0 (by decide))
        have q1 := h1.out (hall 1 (by decide))
        have q2 := h2.out (hall 2 (by decide))
        have q3 := h3.out (hall 3 (by decide))
        have q4 := h4.out (hall 4 (by decide))
        have q5 := h5.out (hall 5 (by decide))
        have q6 := h6.out (hall 6 (by decide))
        have q7 := h7.out (hall 7 (by decide))
        have q8 := h8.out (hall 8 (by decide))
        clear h0 h1 h2 h3 h4 h5 h6 h7 h8
        obtain ⟨w9, rfl⟩ : ∃ X, X = W := ⟨_, rfl⟩
        have hb_w9 : Below w8.heap.size w8 w9 := hS.1
        have h_w9 : Below w.heap.size w w9 := h_w8.trans (hb_w9.mono s_w8)
        revert hb_w9; intro hb_w9
        have s_w9 := Below.size h_w9
        have t_w9 := Below.size hb_w9
        have c_w9 := (hb_w9.block _ (blk c_w8).2.2).trans c_w8
        have d_w9 := (hb_w9.block _ (blk d_w8).2.2).trans d_w8
        have x_w9 := (hb_w9.block _ (blk x_w8).2.2).trans x_w8
        have y_w9 := (hb_w9.block _ (blk y_w8).2.2).trans y_w8
        have f_w9 := (hb_w9.block _ (blk f_w8).2.2).trans f_w8
        have r_w9 := (hb_w9.block _ (blk r_w8).2.2).trans r_w8
        obtain ⟨cc_w9, fc_w9, zc_w9⟩ := blk c_w9
        obtain ⟨cd_w9, fd_w9, zd_w9⟩ := blk d_w9
        obtain ⟨cx_w9, fx_w9, zx_w9⟩ := blk x_w9
        obtain ⟨cy_w9, fy_w9, zy_w9⟩ := blk y_w9
        obtain ⟨cf_w9, ff_w9, zf_w9⟩ := blk f_w9
        obtain ⟨cr_w9, fr_w9, zr_w9⟩ := blk r_w9
        simp only [putF, Act.put, List.setIfInBounds_toArray, List.set_cons_zero, List.set_cons_succ]
        simp only [q7, q8]
        clear q0 q1 q2 q3 q4 q5 q6 q7 q8 hall hS
        go_wp2_with fail
        (go_at_call 58; refine (H0.out _).mono ?_; rintro e w10 ⟨rfl, hb_w10⟩; refine have_then (P := w10.heap[w.heap.size]? = some (.cells #[.int .i64 c.sets, .int .i64 c.ways, .int .i64 c.doms, .int .i64 c.pad, .int .i64 c.quantum, .slice S.a0 c.slots.length S.n0, .slice S.a1 c.owners.length S.n1, .slice S.a2 c.chans.length S.n2, .slice S.a3 c.tasks.length S.n3] 63)) ((hb_w10.block _ byS).trans byH) (fun c_w10 => ?_); obtain ⟨cc_w10, fc_w10, zc_w10⟩ := blk c_w10; refine have_then (P := w10.heap[w.heap.size + 1]? = some (.cells #[.slice T.a0 d.jobs.length T.n0, .slice T.a1 d.released.length T.n1, .int .i64 d.next, .slice T.a2 d.ins.length T.n2, .slice T.a3 d.taken.length T.n3, .slice T.a4 d.outs.length T.n4, .slice T.a5 d.events.length T.n5] 90)) ((hb_w10.block _ byS).trans byH) (fun d_w10 => ?_); obtain ⟨cd_w10, fd_w10, zd_w10⟩ := blk d_w10; refine have_then (P := w10.heap[w1.heap.size]? = some (.cells #[.slice T1.a0 (freshOf c).jobs.length T1.n0, .slice T1.a1 (freshOf c).released.length T1.n1, .int .i64 (freshOf c).next, .slice T1.a2 (freshOf c).ins.length T1.n2, .slice T1.a3 (freshOf c).taken.length T1.n3, .slice T1.a4 (freshOf c).outs.length T1.n4, .slice T1.a5 (freshOf c).events.length T1.n5] 90)) ((hb_w10.block _ byS).trans byH) (fun x_w10 => ?_); obtain ⟨cx_w10, fx_w10, zx_w10⟩ := blk x_w10; refine have_then (P := w10.heap[w2.heap.size]? = some (.cells #[.slice T2.a0 (releaseOf c dom now d).jobs.length T2.n0, .slice T2.a1 (releaseOf c dom now d).released.length T2.n1, .int .i64 (releaseOf c dom now d).next, .slice T2.a2 (releaseOf c dom now d).ins.length T2.n2, .slice T2.a3 (releaseOf c dom now d).taken.length T2.n3, .slice T2.a4 (releaseOf c dom now d).outs.length T2.n4, .slice T2.a5 (releaseOf c dom now d).events.length T2.n5] 90)) ((hb_w10.block _ byS).trans byH) (fun y_w10 => ?_); obtain ⟨cy_w10, fy_w10, zy_w10⟩ := blk y_w10; refine have_then (P := w10.heap[w6.heap.size]? = some (.cells #[.slice Tf.a0 (freshOf c).jobs.length Tf.n0, .slice Tf.a1 (freshOf c).released.length Tf.n1, .int .i64 (freshOf c).next, .slice Tf.a2 (freshOf c).ins.length Tf.n2, .slice Tf.a3 (freshOf c).taken.length Tf.n3, .slice Tf.a4 (freshOf c).outs.length Tf.n4, .slice Tf.a5 (freshOf c).events.length Tf.n5] 90)) ((hb_w10.block _ byS).trans byH) (fun f_w10 => ?_); obtain ⟨cf_w10, ff_w10, zf_w10⟩ := blk f_w10; refine have_then (P := w10.heap[w6.heap.size + 1]? = some (.cells #[.slice Tr.a0 (releaseOf c dom now d).jobs.length Tr.n0, .slice Tr.a1 (releaseOf c dom now d).released.length Tr.n1, .int .i64 (releaseOf c dom now d).next, .slice Tr.a2 (releaseOf c dom now d).ins.length Tr.n2, .slice Tr.a3 (releaseOf c dom now d).taken.length Tr.n3, .slice Tr.a4 (releaseOf c dom now d).outs.length Tr.n4, .slice Tr.a5 (releaseOf c dom now d).events.length Tr.n5] 90)) ((hb_w10.block _ byS).trans byH) (fun r_w10 => ?_); obtain ⟨cr_w10, fr_w10, zr_w10⟩ := blk r_w10; refine have_then (P := Below w.heap.size w w10) byB (fun h_w10 => ?_); have s_w10 := Below.size h_w10; have t_w10 := Below.size hb_w10; (try simp at t_w10); revert hb_w10; intro hb_w10; clear c_w7 cc_w7 fc_w7 d_w7 cd_w7 fd_w7 x_w7 cx_w7 fx_w7 y_w7 cy_w7 fy_w7 f_w7 cf_w7 ff_w7 r_w7 cr_w7 fr_w7)
        go_wp2_with fail
        (go_at_call 59; refine (HDX.out _ _ _ ((hx1.next (Nat.le_refl _) byB).up byS) ((hdf8.next (Nat.le_refl _) byB).up byS)).mono ?_; rintro e w11 ⟨rfl, hb_w11⟩; refine have_then (P := w11.heap[w.heap.size]? = some (.cells #[.int .i64 c.sets, .int .i64 c.ways, .int .i64 c.doms, .int .i64 c.pad, .int .i64 c.quantum, .slice S.a0 c.slots.length S.n0, .slice S.a1 c.owners.length S.n1, .slice S.a2 c.chans.length S.n2, .slice S.a3 c.tasks.length S.n3] 63)) ((hb_w11.block _ byS).trans byH) (fun c_w11 => ?_); obtain ⟨cc_w11, fc_w11, zc_w11⟩ := blk c_w11; refine have_then (P := w11.heap[w.heap.size + 1]? = some (.cells #[.slice T.a0 d.jobs.length T.n0, .slice T.a1 d.released.length T.n1, .int .i64 d.next, .slice T.a2 d.ins.length T.n2, .slice T.a3 d.taken.length T.n3, .slice T.a4 d.outs.length T.n4, .slice T.a5 d.events.length T.n5] 90)) ((hb_w11.block _ byS).trans byH) (fun d_w11 => ?_); obtain ⟨cd_w11, fd_w11, zd_w11⟩ := blk d_w11; refine have_then (P := w11.heap[w1.heap.size]? = some (.cells #[.slice T1.a0 (freshOf c).jobs.length T1.n0, .slice T1.a1 (freshOf c).released.length T1.n1, .int .i64 (freshOf c).next, .slice T1.a2 (freshOf c).ins.length T1.n2, .slice T1.a3 (freshOf c).taken.length T1.n3, .slice T1.a4 (freshOf c).outs.length T1.n4, .slice T1.a5 (freshOf c).events.length T1.n5] 90)) ((hb_w11.block _ byS).trans byH) (fun x_w11 => ?_); obtain ⟨cx_w11, fx_w11, zx_w11⟩ := blk x_w11; refine have_then (P := w11.heap[w2.heap.size]? = some (.cells #[.slice T2.a0 (releaseOf c dom now d).jobs.length T2.n0, .slice T2.a1 (releaseOf c dom now d).released.length T2.n1, .int .i64 (releaseOf c dom now d).next, .slice T2.a2 (releaseOf c dom now d).ins.length T2.n2, .slice T2.a3 (releaseOf c dom now d).taken.length T2.n3, .slice T2.a4 (releaseOf c dom now d).outs.length T2.n4, .slice T2.a5 (releaseOf c dom now d).events.length T2.n5] 90)) ((hb_w11.block _ byS).trans byH) (fun y_w11 => ?_); obtain ⟨cy_w11, fy_w11, zy_w11⟩ := blk y_w11; refine have_then (P := w11.heap[w6.heap.size]? = some (.cells #[.slice Tf.a0 (freshOf c).jobs.length Tf.n0, .slice Tf.a1 (freshOf c).released.length Tf.n1, .int .i64 (freshOf c).next, .slice Tf.a2 (freshOf c).ins.length Tf.n2, .slice Tf.a3 (freshOf c).taken.length Tf.n3, .slice Tf.a4 (freshOf c).outs.length Tf.n4, .slice Tf.a5 (freshOf c).events.length Tf.n5] 90)) ((hb_w11.block _ byS).trans byH) (fun f_w11 => ?_); obtain ⟨cf_w11, ff_w11, zf_w11⟩ := blk f_w11; refine have_then (P := w11.heap[w6.heap.size + 1]? = some (.cells #[.slice Tr.a0 (releaseOf c dom now d).jobs.length Tr.n0, .slice Tr.a1 (releaseOf c dom now d).released.length Tr.n1, .int .i64 (releaseOf c dom now d).next, .slice Tr.a2 (releaseOf c dom now d).ins.length Tr.n2, .slice Tr.a3 (releaseOf c dom now d).taken.length Tr.n3, .slice Tr.a4 (releaseOf c dom now d).outs.length Tr.n4, .slice Tr.a5 (releaseOf c dom now d).events.length Tr.n5] 90)) ((hb_w11.block _ byS).trans byH) (fun r_w11 => ?_); obtain ⟨cr_w11, fr_w11, zr_w11⟩ := blk r_w11; refine have_then (P := Below w.heap.size w w11) byB (fun h_w11 => ?_); have s_w11 := Below.size h_w11; have t_w11 := Below.size hb_w11; (try simp at t_w11); revert hb_w11; intro hb_w11; clear c_w10 cc_w10 fc_w10 d_w10 cd_w10 fd_w10 x_w10 cx_w10 fx_w10 y_w10 cy_w10 fy_w10 f_w10 cf_w10 ff_w10 r_w10 cr_w10 fr_w10)
        go_wp2_with fail
        (go_at_call 60; refine (H5.out _ byB).mono ?_; rintro e w12 ⟨rfl, hb_w12⟩; refine have_then (P := w12.heap[w.heap.size]? = some (.cells #[.int .i64 c.sets, .int .i64 c.ways, .int .i64 c.doms, .int .i64 c.pad, .int .i64 c.quantum, .slice S.a0 c.slots.length S.n0, .slice S.a1 c.owners.length S.n1, .slice S.a2 c.chans.length S.n2, .slice S.a3 c.tasks.length S.n3] 63)) ((hb_w12.block _ byS).trans byH) (fun c_w12 => ?_); obtain ⟨cc_w12, fc_w12, zc_w12⟩ := blk c_w12; refine have_then (P := w12.heap[w.heap.size + 1]? = some (.cells #[.slice T.a0 d.jobs.length T.n0, .slice T.a1 d.released.length T.n1, .int .i64 d.next, .slice T.a2 d.ins.length T.n2, .slice T.a3 d.taken.length T.n3, .slice T.a4 d.outs.length T.n4, .slice T.a5 d.events.length T.n5] 90)) ((hb_w12.block _ byS).trans byH) (fun d_w12 => ?_); obtain ⟨cd_w12, fd_w12, zd_w12⟩ := blk d_w12; refine have_then (P := w12.heap[w1.heap.size]? = some (.cells #[.slice T1.a0 (freshOf c).jobs.length T1.n0, .slice T1.a1 (freshOf c).released.length T1.n1, .int .i64 (freshOf c).next, .slice T1.a2 (freshOf c).ins.length T1.n2, .slice T1.a3 (freshOf c).taken.length T1.n3, .slice T1.a4 (freshOf c).outs.length T1.n4, .slice T1.a5 (freshOf c).events.length T1.n5] 90)) ((hb_w12.block _ byS).trans byH) (fun x_w12 => ?_); obtain ⟨cx_w12, fx_w12, zx_w12⟩ := blk x_w12; refine have_then (P := w12.heap[w2.heap.size]? = some (.cells #[.slice T2.a0 (releaseOf c dom now d).jobs.length T2.n0, .slice T2.a1 (releaseOf c dom now d).released.length T2.n1, .int .i64 (releaseOf c dom now d).next, .slice T2.a2 (releaseOf c dom now d).ins.length T2.n2, .slice T2.a3 (releaseOf c dom now d).taken.length T2.n3, .slice T2.a4 (releaseOf c dom now d).outs.length T2.n4, .slice T2.a5 (releaseOf c dom now d).events.length T2.n5] 90)) ((hb_w12.block _ byS).trans byH) (fun y_w12 => ?_); obtain ⟨cy_w12, fy_w12, zy_w12⟩ := blk y_w12; refine have_then (P := w12.heap[w6.heap.size]? = some (.cells #[.slice Tf.a0 (freshOf c).jobs.length Tf.n0, .slice Tf.a1 (freshOf c).released.length Tf.n1, .int .i64 (freshOf c).next, .slice Tf.a2 (freshOf c).ins.length Tf.n2, .slice Tf.a3 (freshOf c).taken.length Tf.n3, .slice Tf.a4 (freshOf c).outs.length Tf.n4, .slice Tf.a5 (freshOf c).events.length Tf.n5] 90)) ((hb_w12.block _ byS).trans byH) (fun f_w12 => ?_); obtain ⟨cf_w12, ff_w12, zf_w12⟩ := blk f_w12; refine have_then (P := w12.heap[w6.heap.size + 1]? = some (.cells #[.slice Tr.a0 (releaseOf c dom now d).jobs.length Tr.n0, .slice Tr.a1 (releaseOf c dom now d).released.length Tr.n1, .int .i64 (releaseOf c dom now d).next, .slice Tr.a2 (releaseOf c dom now d).ins.length Tr.n2, .slice Tr.a3 (releaseOf c dom now d).taken.length Tr.n3, .slice Tr.a4 (releaseOf c dom now d).outs.length Tr.n4, .slice Tr.a5 (releaseOf c dom now d).events.length Tr.n5] 90)) ((hb_w12.block _ byS).trans byH) (fun r_w12 => ?_); obtain ⟨cr_w12, fr_w12, zr_w12⟩ := blk r_w12; refine have_then (P := Below w.heap.size w w12) byB (fun h_w12 => ?_); have s_w12 := Below.size h_w12; have t_w12 := Below.size hb_w12; (try simp at t_w12); revert hb_w12; intro hb_w12; clear c_w11 cc_w11 fc_w11 d_w11 cd_w11 fd_w11 x_w11 cx_w11 fx_w11 y_w11 cy_w11 fy_w11 f_w11 cf_w11 ff_w11 r_w11 cr_w11 fr_w11)
        go_wp2_with fail
        (go_at_call 59; refine (HDY.out _ _ _ ((hy2.next (Nat.le_refl _) byB).up byS) ((hdr8.next (Nat.le_refl _) byB).up byS)).mono ?_; rintro e w13 ⟨rfl, hb_w13⟩; refine have_then (P := w13.heap[w.heap.size]? = some (.cells #[.int .i64 c.sets, .int .i64 c.ways, .int .i64 c.doms, .int .i64 c.pad, .int .i64 c.quantum, .slice S.a0 c.slots.length S.n0, .slice S.a1 c.owners.length S.n1, .slice S.a2 c.chans.length S.n2, .slice S.a3 c.tasks.length S.n3] 63)) ((hb_w13.block _ byS).trans byH) (fun c_w13 => ?_); obtain ⟨cc_w13, fc_w13, zc_w13⟩ := blk c_w13; refine have_then (P := w13.heap[w.heap.size + 1]? = some (.cells #[.slice T.a0 d.jobs.length T.n0, .slice T.a1 d.released.length T.n1, .int .i64 d.next, .slice T.a2 d.ins.length T.n2, .slice T.a3 d.taken.length T.n3, .slice T.a4 d.outs.length T.n4, .slice T.a5 d.events.length T.n5] 90)) ((hb_w13.block _ byS).trans byH) (fun d_w13 => ?_); obtain ⟨cd_w13, fd_w13, zd_w13⟩ := blk d_w13; refine have_then (P := w13.heap[w1.heap.size]? = some (.cells #[.slice T1.a0 (freshOf c).jobs.length T1.n0, .slice T1.a1 (freshOf c).released.length T1.n1, .int .i64 (freshOf c).next, .slice T1.a2 (freshOf c).ins.length T1.n2, .slice T1.a3 (freshOf c).taken.length T1.n3, .slice T1.a4 (freshOf c).outs.length T1.n4, .slice T1.a5 (freshOf c).events.length T1.n5] 90)) ((hb_w13.block _ byS).trans byH) (fun x_w13 => ?_); obtain ⟨cx_w13, fx_w13, zx_w13⟩ := blk x_w13; refine have_then (P := w13.heap[w2.heap.size]? = some (.cells #[.slice T2.a0 (releaseOf c dom now d).jobs.length T2.n0, .slice T2.a1 (releaseOf c dom now d).released.length T2.n1, .int .i64 (releaseOf c dom now d).next, .slice T2.a2 (releaseOf c dom now d).ins.length T2.n2, .slice T2.a3 (releaseOf c dom now d).taken.length T2.n3, .slice T2.a4 (releaseOf c dom now d).outs.length T2.n4, .slice T2.a5 (releaseOf c dom now d).events.length T2.n5] 90)) ((hb_w13.block _ byS).trans byH) (fun y_w13 => ?_); obtain ⟨cy_w13, fy_w13, zy_w13⟩ := blk y_w13; refine have_then (P := w13.heap[w6.heap.size]? = some (.cells #[.slice Tf.a0 (freshOf c).jobs.length Tf.n0, .slice Tf.a1 (freshOf c).released.length Tf.n1, .int .i64 (freshOf c).next, .slice Tf.a2 (freshOf c).ins.length Tf.n2, .slice Tf.a3 (freshOf c).taken.length Tf.n3, .slice Tf.a4 (freshOf c).outs.length Tf.n4, .slice Tf.a5 (freshOf c).events.length Tf.n5] 90)) ((hb_w13.block _ byS).trans byH) (fun f_w13 => ?_); obtain ⟨cf_w13, ff_w13, zf_w13⟩ := blk f_w13; refine have_then (P := w13.heap[w6.heap.size + 1]? = some (.cells #[.slice Tr.a0 (releaseOf c dom now d).jobs.length Tr.n0, .slice Tr.a1 (releaseOf c dom now d).released.length Tr.n1, .int .i64 (releaseOf c dom now d).next, .slice Tr.a2 (releaseOf c dom now d).ins.length Tr.n2, .slice Tr.a3 (releaseOf c dom now d).taken.length Tr.n3, .slice Tr.a4 (releaseOf c dom now d).outs.length Tr.n4, .slice Tr.a5 (releaseOf c dom now d).events.length Tr.n5] 90)) ((hb_w13.block _ byS).trans byH) (fun r_w13 => ?_); obtain ⟨cr_w13, fr_w13, zr_w13⟩ := blk r_w13; refine have_then (P := Below w.heap.size w w13) byB (fun h_w13 => ?_); have s_w13 := Below.size h_w13; have t_w13 := Below.size hb_w13; (try simp at t_w13); revert hb_w13; intro hb_w13; clear c_w12 cc_w12 fc_w12 d_w12 cd_w12 fd_w12 x_w12 cx_w12 fx_w12 y_w12 cy_w12 fy_w12 f_w12 cf_w12 ff_w12 r_w12 cr_w12 fr_w12)
        go_wp2_with fail
        go_ret
        exact ⟨ret_bool (by simp), byB⟩

theorem lawReadyTells (c : TCfg) (S : TCfgS) (dom : Int) (d : TDom) (T : TDomS) (now : Int) (hz : DomSz d) (hev : d.events.length + 40 ≤ 4398046511104) (B : Nat) (w : World) (hB : B ≤ w.heap.size) (hs : TCfg.At (Low B) w c S) (hd : TDom.At (Low B) w d T) :
    Calls Try.prog 11 #[.agg #[.int .i64 c.sets, .int .i64 c.ways, .int .i64 c.doms, .int .i64 c.pad, .int .i64 c.quantum, .slice S.a0 c.slots.length S.n0, .slice S.a1 c.owners.length S.n1, .slice S.a2 c.chans.length S.n2, .slice S.a3 c.tasks.length S.n3], .int .i64 dom, .agg #[.slice T.a0 d.jobs.length T.n0, .slice T.a1 d.released.length T.n1, .int .i64 d.next, .slice T.a2 d.ins.length T.n2, .slice T.a3 d.taken.length T.n3, .slice T.a4 d.outs.length T.n4, .slice T.a5 d.events.length T.n5], .int .i64 now] w fun en w' => en = .returned (.bool true) ∧ Below w.heap.size w w' := by
  by_cases e1 : checkConfig c = 0
  · cases e2 : isDom c.doms dom
    · exact lawReadyTells_b c S dom d T now hz hev B w hB hs hd e1 e2
    · by_cases e3 : checkBoth c dom d = 0
      · by_cases h1 : now < 0
        · exact lawReadyTells_d1 c S dom d T now hz hev B w hB hs hd e1 e2 e3 h1
        · by_cases h2 : 100000 < now
          · exact lawReadyTells_d2 c S dom d T now hz hev B w hB hs hd e1 e2 e3 (by omega) h2
          · exact lawReadyTells_e c S dom d T now hz hev B w hB hs hd e1 e2 e3 (by omega)
      · exact lawReadyTells_c c S dom d T now hz hev B w hB hs hd e1 e2 e3
  · exact lawReadyTells_a c S dom d T now hz hev B w hB hs hd e1

end Go.Proofs.Ytinlmkhlgclbfaa
