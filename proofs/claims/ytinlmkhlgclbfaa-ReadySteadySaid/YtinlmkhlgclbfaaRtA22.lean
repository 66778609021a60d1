/- KeepC -/
import Derived.Test.YtinlmkhlgclbfaaRtA21
namespace Go.Proofs.Ytinlmkhlgclbfaa
open Go.RowKit
set_option maxRecDepth 100000
set_option maxHeartbeats 4000000

theorem keeperAhead (gk : Nat) (G : Nat → Nat → Prop) (B : Nat) (w : World) (c : TCfg) (S : TCfgS) (m : Int) (d : TDom) (T : TDomS) (h : Kp gk G B w c S m d T) (x y : TJob)
    (hx : 0 ≤ x.task ∧ x.task < c.tasks.length) (hy : 0 ≤ y.task ∧ y.task < c.tasks.length)
    (hpx : 0 ≤ (taskOf c x.task).dead ∧ (taskOf c x.task).dead ≤ 5000) (hpy : 0 ≤ (taskOf c y.task).dead ∧ (taskOf c y.task).dead ≤ 5000)
    (hrx : 0 ≤ x.released ∧ x.released ≤ 100000) (hry : 0 ≤ y.released ∧ y.released ≤ 100000) (hk6 : c.tasks.length ≤ 6) :
    Calls Try.prog 125 #[.pointer (some ⟨gk, 0, none⟩), .agg #[.int .i64 x.task, .int .i64 x.number, .int .i64 x.released, .int .i64 x.used, .bool x.ran, .bool x.missed], .agg #[.int .i64 y.task, .int .i64 y.number, .int .i64 y.released, .int .i64 y.used, .bool y.ran, .bool y.missed]] w fun e w' => e = .returned (.bool (aheadJ c x y)) ∧ Below w.heap.size w w' := by
  replace h := Lib.hid h
  go_enter Try.func125, Try.ntmps125
  go_wp2_with fail
  refine wp_region_inv [9, 10, 11, 12, 13, 14, 7, 8] (fun l f W => (Below w.heap.size w W ∧ W.heap[w.heap.size]? = some (.cells #[.int .i64 x.task, .int .i64 x.number, .int .i64 x.released, .int .i64 x.used, .bool x.ran, .bool x.missed] 106) ∧ W.heap[w.heap.size + 1]? = some (.cells #[.int .i64 y.task, .int .i64 y.number, .int .i64 y.released, .int .i64 y.used, .bool y.ran, .bool y.missed] 106) ∧ l.size = 8) ∧ Fa l 0 (f 9 = .pointer (some ⟨gk, 0, none⟩)) ∧ Fa l 1 (f 10 = .agg #[.int .i64 x.task, .int .i64 x.number, .int .i64 x.released, .int .i64 x.used, .bool x.ran, .bool x.missed]) ∧ Fa l 2 (f 11 = .int .i64 (lateOf c x)) ∧ Fa l 3 (f 12 = .pointer (some ⟨gk, 0, none⟩)) ∧ Fa l 4 (f 13 = .agg #[.int .i64 y.task, .int .i64 y.number, .int .i64 y.released, .int .i64 y.used, .bool y.ran, .bool y.missed]) ∧ Fa l 5 (f 14 = .int .i64 (lateOf c y)) ∧ Fa l 6 (f 7 = .int .i64 (lateOf c x)) ∧ Fa l 7 (f 8 = .int .i64 (lateOf c y))) (by kernel_rfl) (by decide) (by kernel_rfl) (by intro s hs; simp at hs ⊢; omega) ?_ ?_ ?_
  · intro l hz hl
    exact ⟨⟨byB, by exact byH, by exact byH, hz⟩, .no (hl 0), .no (hl 1), .no (hl 2), .no (hl 3), .no (hl 4), .no (hl 5), .no (hl 6), .no (hl 7)⟩
  · refine StepsL.cons 1 [] rfl (by kernel_rfl) rfl (by intro d hd; injection hd with hd; subst hd; decide) (fun l f W hR hn hb K Q2 hK => ?_) ?_
    · obtain ⟨hS, h0, h1, h2, h3, h4, h5, h6, h7⟩ := hR
      replace hb := Lib.hid hb
      refine ⟨?_⟩
      simp only [putF, Act.put, List.setIfInBounds_toArray, List.set_cons_zero, List.set_cons_succ] at hK ⊢
      replace hK := Lib.hid hK
      go_simp
      refine hK.out.out _ _ ⟨⟨hS.1, hS.2.1, hS.2.2.1, by simpa using hS.2.2.2⟩, ⟨fun _ => rfl⟩, h1.k, h2.k, h3.k, h4.k, h5.k, h6.k, h7.k⟩
    refine StepsL.cons 2 [] rfl (by kernel_rfl) rfl (by intro d hd; injection hd with hd; subst hd; decide) (fun l f W hR hn hb K Q2 hK => ?_) ?_
    · obtain ⟨hS, h0, h1, h2, h3, h4, h5, h6, h7⟩ := hR
      replace hb := Lib.hid hb
      refine ⟨?_⟩
      simp only [putF, Act.put, List.setIfInBounds_toArray, List.set_cons_zero, List.set_cons_succ] at hK ⊢
      replace hK := Lib.hid hK
      obtain ⟨cS, fS, zS⟩ := blk hS.2.1
      go_simp
      refine hK.out.out _ _ ⟨⟨hS.1, hS.2.1, hS.2.2.1, by simpa using hS.2.2.2⟩, h0.k, ⟨fun _ => rfl⟩, h2.k, h3.k, h4.k, h5.k, h6.k, h7.k⟩
    refine StepsL.cons 3 [0, 1] rfl (by kernel_rfl) rfl (by intro d hd; injection hd with hd; subst hd; decide) (fun l f W hR hn hb K Q2 hK => ?_) ?_
    · obtain ⟨hS, h0, h1, h2, h3, h4, h5, h6, h7⟩ := hR
      have q0 := h0.out (hb 0 (by simp))
      have q1 := h1.out (hb 1 (by simp))
      replace hb := Lib.hid hb
      refine ⟨?_⟩
      simp only [putF, Act.put, List.setIfInBounds_toArray, List.set_cons_zero, List.set_cons_succ] at hK ⊢
      (try simp only [q0, q1] at hK)
      replace hK := Lib.hid hK
      have HC := keeperLate gk G B W c S m d T (h.out.ext hS.1) x hx hpx hrx hk6
      go_simp
      go_at_call 124
      refine HC.mono ?_
      clear HC
      rintro e w3 ⟨rfl, hb1⟩
      try dsimp only
      try simp only [Act.put, List.setIfInBounds_toArray, List.set_cons_zero, List.set_cons_succ]
      refine hK.out.out _ _ ⟨⟨hS.1.trans (hb1.mono hS.1.size), (hb1.block _ (blk hS.2.1).2.2).trans hS.2.1, (hb1.block _ (blk hS.2.2.1).2.2).trans hS.2.2.1, by simpa using hS.2.2.2⟩, h0.k, h1.k, ⟨fun _ => rfl⟩, h3.k, h4.k, h5.k, h6.k, h7.k⟩
    refine StepsL.cons 4 [] rfl (by kernel_rfl) rfl (by intro d hd; injection hd with hd; subst hd; decide) (fun l f W hR hn hb K Q2 hK => ?_) ?_
    · obtain ⟨hS, h0, h1, h2, h3, h4, h5, h6, h7⟩ := hR
      replace hb := Lib.hid hb
      refine ⟨?_⟩
      simp only [putF, Act.put, List.setIfInBounds_toArray, List.set_cons_zero, List.set_cons_succ] at hK ⊢
      replace hK := Lib.hid hK
      go_simp
      refine hK.out.out _ _ ⟨⟨hS.1, hS.2.1, hS.2.2.1, by simpa using hS.2.2.2⟩, h0.k, h1.k, h2.k, ⟨fun _ => rfl⟩, h4.k, h5.k, h6.k, h7.k⟩
    refine StepsL.cons 5 [] rfl (by kernel_rfl) rfl (by intro d hd; injection hd with hd; subst hd; decide) (fun l f W hR hn hb K Q2 hK => ?_) ?_
    · obtain ⟨hS, h0, h1, h2, h3, h4, h5, h6, h7⟩ := hR
      replace hb := Lib.hid hb
      refine ⟨?_⟩
      simp only [putF, Act.put, List.setIfInBounds_toArray, List.set_cons_zero, List.set_cons_succ] at hK ⊢
      replace hK := Lib.hid hK
      obtain ⟨cS, fS, zS⟩ := blk hS.2.2.1
      go_simp
      refine hK.out.out _ _ ⟨⟨hS.1, hS.2.1, hS.2.2.1, by simpa using hS.2.2.2⟩, h0.k, h1.k, h2.k, h3.k, ⟨fun _ => rfl⟩, h5.k, h6.k, h7.k⟩
    refine StepsL.cons 6 [3, 4, 2] rfl (by kernel_rfl) rfl (by intro d hd; injection hd with hd; subst hd; decide) (fun l f W hR hn hb K Q2 hK => ?_) ?_
    · obtain ⟨hS, h0, h1, h2, h3, h4, h5, h6, h7⟩ := hR
      have q2 := h2.out (hb 2 (by simp))
      have q3 := h3.out (hb 3 (by simp))
      have q4 := h4.out (hb 4 (by simp))
      replace hb := Lib.hid hb
      refine ⟨?_⟩
      simp only [putF, Act.put, List.setIfInBounds_toArray, List.set_cons_zero, List.set_cons_succ] at hK ⊢
      (try simp only [q2, q3, q4] at hK)
      replace hK := Lib.hid hK
      have HC := keeperLate gk G B W c S m d T (h.out.ext hS.1) y hy hpy hry hk6
      go_simp
      go_at_call 124
      refine HC.mono ?_
      clear HC
      rintro e w3 ⟨rfl, hb1⟩
      try dsimp only
      try simp only [Act.put, List.setIfInBounds_toArray, List.set_cons_zero, List.set_cons_succ]
      refine hK.out.out _ _ ⟨⟨hS.1.trans (hb1.mono hS.1.size), (hb1.block _ (blk hS.2.1).2.2).trans hS.2.1, (hb1.block _ (blk hS.2.2.1).2.2).trans hS.2.2.1, by simpa using hS.2.2.2⟩, h0.k, h1.k, h2.k, h3.k, h4.k, ⟨fun _ => rfl⟩, h6.k, h7.k⟩
    refine StepsL.cons 7 [2, 5, 0, 1, 2] rfl (by kernel_rfl) rfl (by intro d hd; injection hd with hd; subst hd; decide) (fun l f W hR hn hb K Q2 hK => ?_) ?_
    · obtain ⟨hS, h0, h1, h2, h3, h4, h5, h6, h7⟩ := hR
      have q0 := h0.out (hb 0 (by simp))
      have q1 := h1.out (hb 1 (by simp))
      have q2 := h2.out (hb 2 (by simp))
      have q5 := h5.out (hb 5 (by simp))
      replace hb := Lib.hid hb
      refine ⟨?_⟩
      simp only [putF, Act.put, List.setIfInBounds_toArray, List.set_cons_zero, List.set_cons_succ] at hK ⊢
      (try simp only [q0, q1, q2, q5] at hK)
      replace hK := Lib.hid hK
      go_simp
      refine hK.out.out _ _ ⟨⟨hS.1, hS.2.1, hS.2.2.1, by simpa using hS.2.2.2⟩, h0.k, h1.k, h2.k, h3.k, h4.k, h5.k, ⟨fun _ => rfl⟩, h7.k⟩
    refine StepsL.cons 8 [5, 6, 0, 1, 2, 3, 4, 5, 6] rfl (by kernel_rfl) rfl (by intro d hd; injection hd with hd; subst hd; decide) (fun l f W hR hn hb K Q2 hK => ?_) ?_
    · obtain ⟨hS, h0, h1, h2, h3, h4, h5, h6, h7⟩ := hR
      have q0 := h0.out (hb 0 (by simp))
      have q1 := h1.out (hb 1 (by simp))
      have q2 := h2.out (hb 2 (by simp))
      have q3 := h3.out (hb 3 (by simp))
      have q4 := h4.out (hb 4 (by simp))
      have q5 := h5.out (hb 5 (by simp))
      have q6 := h6.out (hb 6 (by simp))
      replace hb := Lib.hid hb
      refine ⟨?_⟩
      simp only [putF, Act.put, List.setIfInBounds_toArray, List.set_cons_zero, List.set_cons_succ] at hK ⊢
      (try simp only [q0, q1, q2, q3, q4, q5, q6] at hK)
      replace hK := Lib.hid hK
      go_simp
      refine hK.out.out _ _ ⟨⟨hS.1, hS.2.1, hS.2.2.1, by simpa using hS.2.2.2⟩, h0.k, h1.k, h2.k, h3.k, h4.k, h5.k, h6.k, ⟨fun _ => rfl⟩⟩
    exact StepsL.nil
  · intro l f W hR hall
    obtain ⟨hS, h0, h1, h2, h3, h4, h5, h6, h7⟩ := hR
    have q0 := h0.out (hall 0 (by decide))
    have q1 := h1.out (hall 1 (by decide))
    have q2 := h2.out (hall 2 (by decide))
    have q3 := h3.out (hall 3 (by decide))
    have q4 := h4.out (hall 4 (by decide))
    have q5 := h5.out (hall 5 (by decide))
    have q6 := h6.out (hall 6 (by decide))
    have q7 := h7.out (hall 7 (by decide))
    clear h0 h1 h2 h3 h4 h5 h6 h7
    obtain ⟨hB, h1, h2, _⟩ := hS
    obtain ⟨c1, f1, z1⟩ := blk h1
    obtain ⟨c2, f2, z2⟩ := blk h2
    simp only [putF, Act.put, List.setIfInBounds_toArray, List.set_cons_zero, List.set_cons_succ]
    simp only [q6, q7]
    generalize hla : lateOf c x = la at *
    generalize hlb : lateOf c y = lb at *
    clear q0 q1 q2 q3 q4 q5 hpx hpy hrx hry hx hy
    go_wp2_with fail
    · refine bodyPost_ret (v := .bool (decide (la < lb))) (by simp [results, Try.results125, go_sem, *]) rfl ?_
      exact ⟨by unfold aheadJ; clear hall; simp_all, hB⟩
    · refine bodyPost_ret (v := .bool (decide (x.task < y.task))) (by simp [results, Try.results125, go_sem, *]) rfl ?_
      exact ⟨by unfold aheadJ; clear hall; simp_all, hB⟩
    · refine bodyPost_ret (v := .bool (decide (x.number < y.number))) (by simp [results, Try.results125, go_sem, *]) rfl ?_
      exact ⟨by unfold aheadJ; clear hall; simp_all, hB⟩
end Go.Proofs.Ytinlmkhlgclbfaa
