/- KeepC ReachB KeepD -/
import Derived.Test.YtinlmkhlgclbfabWwA01
import Derived.Test.YtinlmkhlgclbfabWwA21
import Derived.Test.YtinlmkhlgclbfabProg
import Derived.StillTailTactics
import Derived.Deep.RegionLaw
section
namespace Go.Proofs.Ytinlmkhlgclbfab
open Go.RowKit
set_option maxRecDepth 100000
set_option maxHeartbeats 4000000

theorem keeperAhead (gk : Nat) (G : Nat → Nat → Prop) (B : Nat) (w : World) (c : TCfg) (S : TCfgS) (m : Int) (d : TDom) (T : TDomS) (h : Kp gk G B w c S m d T) (x y : TJob)
    (hx : 0 ≤ x.task ∧ x.task < c.tasks.length) (hy : 0 ≤ y.task ∧ y.task < c.tasks.length)
    (hpx : 0 ≤ (taskOf c x.task).dead ∧ (taskOf c x.task).dead ≤ 5000) (hpy : 0 ≤ (taskOf c y.task).dead ∧ (taskOf c y.task).dead ≤ 5000)
    (hrx : 0 ≤ x.released ∧ x.released ≤ 100000) (hry : 0 ≤ y.released ∧ y.released ≤ 100000) (hk6 : c.tasks.length ≤ 6) :
    Calls Try.prog 149 #[.pointer (some ⟨gk, 0, none⟩), .agg #[.int .i64 x.task, .int .i64 x.number, .int .i64 x.released, .int .i64 x.used, .bool x.ran, .bool x.missed], .agg #[.int .i64 y.task, .int .i64 y.number, .int .i64 y.released, .int .i64 y.used, .bool y.ran, .bool y.missed]] w fun e w' => e = .returned (.bool (aheadJ c x y)) ∧ Below w.heap.size w w' := by
  replace h := Lib.hid h
  go_enter Try.func149, Try.ntmps149
  go_wp2_with fail
  refine wp_region_inv [9, 10, 11, 12, 13, 14, 7, 8] (fun l f W => (Below w.heap.size w W ∧ W.heap[w.heap.size]? = some (.cells #[.int .i64 x.task, .int .i64 x.number, .int .i64 x.released, .int .i64 x.used, .bool x.ran, .bool x.missed] 110) ∧ W.heap[w.heap.size + 1]? = some (.cells #[.int .i64 y.task, .int .i64 y.number, .int .i64 y.released, .int .i64 y.used, .bool y.ran, .bool y.missed] 110) ∧ l.size = 8) ∧ Fa l 0 (f 9 = .pointer (some ⟨gk, 0, none⟩)) ∧ Fa l 1 (f 10 = .agg #[.int .i64 x.task, .int .i64 x.number, .int .i64 x.released, .int .i64 x.used, .bool x.ran, .bool x.missed]) ∧ Fa l 2 (f 11 = .int .i64 (lateOf c x)) ∧ Fa l 3 (f 12 = .pointer (some ⟨gk, 0, none⟩)) ∧ Fa l 4 (f 13 = .agg #[.int .i64 y.task, .int .i64 y.number, .int .i64 y.released, .int .i64 y.used, .bool y.ran, .bool y.missed]) ∧ Fa l 5 (f 14 = .int .i64 (lateOf c y)) ∧ Fa l 6 (f 7 = .int .i64 (lateOf c x)) ∧ Fa l 7 (f 8 = .int .i64 (lateOf c y))) (by kernel_rfl) (by decide) (by kernel_rfl) (by intro s hs; simp at hs ⊢; omega) ?_ ?_ ?_
  · intro l hz hl
    exact ⟨⟨byB, by exact byH, by exact byH, hz⟩, .no (hl 0), .no (hl 1), .no (hl 2), .no (hl 3), .no (hl 4), .no (hl 5), .no (hl 6), .no (hl 7)⟩
  · refine StepsL.cons 1 [] rfl (by kernel_rfl) rfl (by intro d hd; injection hd with hd; subst hd; decide) (fun l f W hR hn hb K Q2 hK => ?_) ?_
    · obtain ⟨hS, h0, h1, h2, h3, h4, h5, h6, h7⟩ := hR
      replace hb := Lib.hid hb
      refine ⟨?_⟩
      simp only [putF, Act.put, List.setIfInBounds_toArray, List.set_cons_zero, List.set_cons_succ] at hK ⊢
      replace hK := Lib.hid hK
      go_simp
      refine hK.out.out _ _ ⟨⟨hS.1, hS.2.1, hS.2.2.1, by simpa using hS.2.2.2⟩, ⟨fun _ => rfl⟩, h1.k, h2.k, h3.k, h4.k, h5.k, h6.k, h7.k⟩
    refine StepsL.cons 2 [] rfl (by kernel_rfl) rfl (by intro d hd; injection hd with hd; subst hd; decide) (fun l f W hR hn hb K Q2 hK => ?_) ?_
    · obtain ⟨hS, h0, h1, h2, h3, h4, h5, h6, h7⟩ := hR
      replace hb := Lib.hid hb
      refine ⟨?_⟩
      simp only [putF, Act.put, List.setIfInBounds_toArray, List.set_cons_zero, List.set_cons_succ] at hK ⊢
      replace hK := Lib.hid hK
      obtain ⟨cS, fS, zS⟩ := blk hS.2.1
      go_simp
      refine hK.out.out _ _ ⟨⟨hS.1, hS.2.1, hS.2.2.1, by simpa using hS.2.2.2⟩, h0.k, ⟨fun _ => rfl⟩, h2.k, h3.k, h4.k, h5.k, h6.k, h7.k⟩
    refine StepsL.cons 3 [0, 1] rfl (by kernel_rfl) rfl (by intro d hd; injection hd with hd; subst hd; decide) (fun l f W hR hn hb K Q2 hK => ?_) ?_
    · obtain ⟨hS, h0, h1, h2, h3, h4, h5, h6, h7⟩ := hR
      have q0 := h0.out (hb 0 (by simp))
      have q1 := h1.out (hb 1 (by simp))
      replace hb := Lib.hid hb
      refine ⟨?_⟩
      simp only [putF, Act.put, List.setIfInBounds_toArray, List.set_cons_zero, List.set_cons_succ] at hK ⊢
      (try simp only [q0, q1] at hK)
      replace hK := Lib.hid hK
      have HC := keeperLate gk G B W c S m d T (h.out.ext hS.1) x hx hpx hrx hk6
      go_simp
      go_at_call 148
      refine HC.mono ?_
      clear HC
      rintro e w3 ⟨rfl, hb1⟩
      try dsimp only
      try simp only [Act.put, List.setIfInBounds_toArray, List.set_cons_zero, List.set_cons_succ]
      refine hK.out.out _ _ ⟨⟨hS.1.trans (hb1.mono hS.1.size), (hb1.block _ (blk hS.2.1).2.2).trans hS.2.1, (hb1.block _ (blk hS.2.2.1).2.2).trans hS.2.2.1, by simpa using hS.2.2.2⟩, h0.k, h1.k, ⟨fun _ => rfl⟩, h3.k, h4.k, h5.k, h6.k, h7.k⟩
    refine StepsL.cons 4 [] rfl (by kernel_rfl) rfl (by intro d hd; injection hd with hd; subst hd; decide) (fun l f W hR hn hb K Q2 hK => ?_) ?_
    · obtain ⟨hS, h0, h1, h2, h3, h4, h5, h6, h7⟩ := hR
      replace hb := Lib.hid hb
      refine ⟨?_⟩
      simp only [putF, Act.put, List.setIfInBounds_toArray, List.set_cons_zero, List.set_cons_succ] at hK ⊢
      replace hK := Lib.hid hK
      go_simp
      refine hK.out.out _ _ ⟨⟨hS.1, hS.2.1, hS.2.2.1, by simpa using hS.2.2.2⟩, h0.k, h1.k, h2.k, ⟨fun _ => rfl⟩, h4.k, h5.k, h6.k, h7.k⟩
    refine StepsL.cons 5 [] rfl (by kernel_rfl) rfl (by intro d hd; injection hd with hd; subst hd; decide) (fun l f W hR hn hb K Q2 hK => ?_) ?_
    · obtain ⟨hS, h0, h1, h2, h3, h4, h5, h6, h7⟩ := hR
      replace hb := Lib.hid hb
      refine ⟨?_⟩
      simp only [putF, Act.put, List.setIfInBounds_toArray, List.set_cons_zero, List.set_cons_succ] at hK ⊢
      replace hK := Lib.hid hK
      obtain ⟨cS, fS, zS⟩ := blk hS.2.2.1
      go_simp
      refine hK.out.out _ _ ⟨⟨hS.1, hS.2.1, hS.2.2.1, by simpa using hS.2.2.2⟩, h0.k, h1.k, h2.k, h3.k, ⟨fun _ => rfl⟩, h5.k, h6.k, h7.k⟩
    refine StepsL.cons 6 [3, 4, 2] rfl (by kernel_rfl) rfl (by intro d hd; injection hd with hd; subst hd; decide) (fun l f W hR hn hb K Q2 hK => ?_) ?_
    · obtain ⟨hS, h0, h1, h2, h3, h4, h5, h6, h7⟩ := hR
      have q2 := h2.out (hb 2 (by simp))
      have q3 := h3.out (hb 3 (by simp))
      have q4 := h4.out (hb 4 (by simp))
      replace hb := Lib.hid hb
      refine ⟨?_⟩
      simp only [putF, Act.put, List.setIfInBounds_toArray, List.set_cons_zero, List.set_cons_succ] at hK ⊢
      (try simp only [q2, q3, q4] at hK)
      replace hK := Lib.hid hK
      have HC := keeperLate gk G B W c S m d T (h.out.ext hS.1) y hy hpy hry hk6
      go_simp
      go_at_call 148
      refine HC.mono ?_
      clear HC
      rintro e w3 ⟨rfl, hb1⟩
      try dsimp only
      try simp only [Act.put, List.setIfInBounds_toArray, List.set_cons_zero, List.set_cons_succ]
      refine hK.out.out _ _ ⟨⟨hS.1.trans (hb1.mono hS.1.size), (hb1.block _ (blk hS.2.1).2.2).trans hS.2.1, (hb1.block _ (blk hS.2.2.1).2.2).trans hS.2.2.1, by simpa using hS.2.2.2⟩, h0.k, h1.k, h2.k, h3.k, h4.k, ⟨fun _ => rfl⟩, h6.k, h7.k⟩
    refine StepsL.cons 7 [2, 5, 0, 1, 2] rfl (by kernel_rfl) rfl (by intro d hd; injection hd with hd; subst hd; decide) (fun l f W hR hn hb K Q2 hK => ?_) ?_
    · obtain ⟨hS, h0, h1, h2, h3, h4, h5, h6, h7⟩ := hR
      have q0 := h0.out (hb 0 (by simp))
      have q1 := h1.out (hb 1 (by simp))
      have q2 := h2.out (hb 2 (by simp))
      have q5 := h5.out (hb 5 (by simp))
      replace hb := Lib.hid hb
      refine ⟨?_⟩
      simp only [putF, Act.put, List.setIfInBounds_toArray, List.set_cons_zero, List.set_cons_succ] at hK ⊢
      (try simp only [q0, q1, q2, q5] at hK)
      replace hK := Lib.hid hK
      go_simp
      refine hK.out.out _ _ ⟨⟨hS.1, hS.2.1, hS.2.2.1, by simpa using hS.2.2.2⟩, h0.k, h1.k, h2.k, h3.k, h4.k, h5.k, ⟨fun _ => rfl⟩, h7.k⟩
    refine StepsL.cons 8 [5, 6, 0, 1, 2, 3, 4, 5, 6] rfl (by kernel_rfl) rfl (by intro d hd; injection hd with hd; subst hd; decide) (fun l f W hR hn hb K Q2 hK => ?_) ?_
    · obtain ⟨hS, h0, h1, h2, h3, h4, h5, h6, h7⟩ := hR
      have q0 := h0.out (hb 0 (by simp))
      have q1 := h1.out (hb 1 (by simp))
      have q2 := h2.out (hb 2 (by simp))
      have q3 := h3.out (hb 3 (by simp))
      have q4 := h4.out (hb 4 (by simp))
      have q5 := h5.out (hb 5 (by simp))
      have q6 := h6.out (hb 6 (by simp))
      replace hb := Lib.hid hb
      refine ⟨?_⟩
      simp only [putF, Act.put, List.setIfInBounds_toArray, List.set_cons_zero, List.set_cons_succ] at hK ⊢
      (try simp only [q0, q1, q2, q3, q4, q5, q6] at hK)
      replace hK := Lib.hid hK
      go_simp
      refine hK.out.out _ _ ⟨⟨hS.1, hS.2.1, hS.2.2.1, by simpa using hS.2.2.2⟩, h0.k, h1.k, h2.k, h3.k, h4.k, h5.k, h6.k, ⟨fun _ => rfl⟩⟩
    exact StepsL.nil
  · intro l f W hR hall
    obtain ⟨hS, h0, h1, h2, h3, h4, h5, h6, h7⟩ := hR
    have q0 := h0.out (hall 0 (by decide))
    have q1 := h1.out (hall 1 (by decide))
    have q2 := h2.out (hall 2 (by decide))
    have q3 := h3.out (hall 3 (by decide))
    have q4 := h4.out (hall 4 (by decide))
    have q5 := h5.out (hall 5 (by decide))
    have q6 := h6.out (hall 6 (by decide))
    have q7 := h7.out (hall 7 (by decide))
    clear h0 h1 h2 h3 h4 h5 h6 h7
    obtain ⟨hB, h1, h2, _⟩ := hS
    obtain ⟨c1, f1, z1⟩ := blk h1
    obtain ⟨c2, f2, z2⟩ := blk h2
    simp only [putF, Act.put, List.setIfInBounds_toArray, List.set_cons_zero, List.set_cons_succ]
    simp only [q6, q7]
    generalize hla : lateOf c x = la at *
    generalize hlb : lateOf c y = lb at *
    clear q0 q1 q2 q3 q4 q5 hpx hpy hrx hry hx hy
    go_wp2_with fail
    · refine bodyPost_ret (v := .bool (decide (la < lb))) (by simp [results, Try.results149, go_sem, *]) rfl ?_
      exact ⟨by unfold aheadJ; clear hall; simp_all, hB⟩
    · refine bodyPost_ret (v := .bool (decide (x.task < y.task))) (by simp [results, Try.results149, go_sem, *]) rfl ?_
      exact ⟨by unfold aheadJ; clear hall; simp_all, hB⟩
    · refine bodyPost_ret (v := .bool (decide (x.number < y.number))) (by simp [results, Try.results149, go_sem, *]) rfl ?_
      exact ⟨by unfold aheadJ; clear hall; simp_all, hB⟩
end Go.Proofs.Ytinlmkhlgclbfab
end

section
namespace Go.Proofs.Ytinlmkhlgclbfab
open Go.RowKit
set_option maxRecDepth 100000
set_option maxHeartbeats 1000000

/-- the first region of n operations -/
def regionOf (n : Nat) : Code → Option Code
  | .region i ops d => if ops.size = n then some (.region i ops d) else none
  | .seq a b => match regionOf n a with
    | some c => some c
    | none => regionOf n b
  | .cond _ a b => match regionOf n a with
    | some c => some c
    | none => regionOf n b
  | .block _ c => regionOf n c
  | .loop c => regionOf n c
  | .scope c => regionOf n c
  | _ => none
noncomputable def turnCode : Code := ((Try.f119.body.bind (regionOf 26)).getD .skip)

theorem reachTurn (C : Code) (hC : C = turnCode) (n ks kd i g gi gx c1 : Nat) (xz : Int) (b1 b2 : Bool) (hi1 : i < n) (hs1 : ks < n) (hd1 : kd < n) (wr : World) (hn4 : n ≤ 4)
    (cx : ∀ oo, wr.cell? ⟨gx, oo, none⟩ = #[.int .i64 ks, .int .i64 kd, .int .i64 xz][oo]?) (fx : ∀ oo, wr.frozen? ⟨gx, oo, none⟩ = false) (zx : gx < wr.heap.size)
    (hcr : wr.cell? ⟨g, i, none⟩ = some (.slice (some ⟨gi, 0, none⟩) n n)) (hcs : wr.cell? ⟨gi, ks, none⟩ = some (.bool b1)) (hcd : wr.cell? ⟨gi, kd, none⟩ = some (.bool b2))
    (fg : ∀ oo, wr.frozen? ⟨gi, oo, none⟩ = false) (zg : gi < wr.heap.size)
    (u0 u1 u2 u4 u5 u6 u9 u10 u11 u12 u13 u14 u15 u16 u17 u18 u19 u20 u21 u22 u23 u24 u25 u26 u27 u28 u29 u30 u31 u32 u33 u34 u35 u36 u37 u38 u39 u40 u41 u42 u43 u44 u45 u46 u47 u48 u49 u50 u51 u52 u53 u54 u55 u56 u57 u58 u59 u60 u61 u62 u63 u64 u65 u66 u67 u68 u69 : Value) (Q : Exit → Act → World → Prop)
    (hQ : ∀ v41 v42 v43 v44 v45 v46 v47 v48 v49 v50 v51 v52 v53 v54 v55 v56 v57 v58 v59 v60 v61 v62 v63 v64 v65 : Value, Q .normal ⟨#[u0, u1, u2, .slice (some ⟨g, 0, none⟩) n c1, u4, u5, u6, .pointer (some ⟨gx, 0, none⟩), .int .i64 i, u9, u10, u11, u12, u13, u14, u15, u16, u17, u18, u19, u20, u21, u22, u23, u24, u25, u26, u27, u28, u29, u30, u31, u32, u33, u34, u35, u36, u37, u38, u39, u40, v41, v42, v43, v44, v45, v46, v47, v48, v49, v50, v51, v52, v53, v54, v55, v56, v57, v58, v59, v60, v61, v62, v63, v64, v65, u66, u67, u68, u69], []⟩ (wr.setCell ⟨gi, kd, none⟩ (.bool (b2 || b1))).drew) :
    Code.wp Try.prog C Q ⟨#[u0, u1, u2, .slice (some ⟨g, 0, none⟩) n c1, u4, u5, u6, .pointer (some ⟨gx, 0, none⟩), .int .i64 i, u9, u10, u11, u12, u13, u14, u15, u16, u17, u18, u19, u20, u21, u22, u23, u24, u25, u26, u27, u28, u29, u30, u31, u32, u33, u34, u35, u36, u37, u38, u39, u40, u41, u42, u43, u44, u45, u46, u47, u48, u49, u50, u51, u52, u53, u54, u55, u56, u57, u58, u59, u60, u61, u62, u63, u64, u65, u66, u67, u68, u69], []⟩ wr := by
  subst hC
  have hi0 : (0 : Int) ≤ i := by omega
  have hks0 : (0 : Int) ≤ ks := by omega
  have hkd0 : (0 : Int) ≤ kd := by omega
  have hi2 : (i : Int) < n := by omega
  have hks2 : (ks : Int) < n := by omega
  have hkd2 : (kd : Int) < n := by omega
  replace hQ := Lib.hid hQ
  conv => arg 2; whnf
  cases b2
  · (refine wp_region_still_tail 25 (by kernel_rfl) (by kernel_rfl) ?_; simp only [List.take_succ_cons, List.take_zero, List.drop_succ_cons, List.drop_zero]; (iterate 25 (with_reducible refine wpStill_step (fun K hK => ?_); replace hK := Lib.hid hK; go_simp; with_reducible refine hK.out _ ?_; clear hK K)); refine wpStill_nil ?_)
    change wpList _ _ _ _ _ wr.drew
    go_wp2_with fail
    exact hQ.out _ _ _ _ _ _ _ _ _ _ _ _ _ _ _ _ _ _ _ _ _ _ _ _ _ 
  · (refine wp_region_still_tail 25 (by kernel_rfl) (by kernel_rfl) ?_; simp only [List.take_succ_cons, List.take_zero, List.drop_succ_cons, List.drop_zero]; (iterate 25 (with_reducible refine wpStill_step (fun K hK => ?_); replace hK := Lib.hid hK; go_simp; with_reducible refine hK.out _ ?_; clear hK K)); refine wpStill_nil ?_)
    change wpList _ _ _ _ _ wr.drew
    go_wp2_with fail
    exact hQ.out _ _ _ _ _ _ _ _ _ _ _ _ _ _ _ _ _ _ _ _ _ _ _ _ _ 
end Go.Proofs.Ytinlmkhlgclbfab
end

section
namespace Go.Proofs.Ytinlmkhlgclbfab
open Go.RowKit
set_option maxRecDepth 100000
set_option maxHeartbeats 4000000

theorem CfgOk.job {c : TCfg} {dom : Int} {j : TJob} (hc : CfgOk c) (h : JobOk c dom j) : 0 ≤ (taskOf c j.task).dead ∧ (taskOf c j.task).dead ≤ 5000 := by
  have := hc.task j.task.toNat (by have := h.task; omega)
  unfold taskOf
  omega
theorem DomO.job_cells {G : Nat → Nat → Prop} {w : World} {d : TDom} {T : TDomS} (h : DomO G w d T) {i : Nat} (hi : i < d.jobs.length) :
    ∃ g, T.a0 = some ⟨g, 0, none⟩ ∧ G 0 g ∧ g < w.heap.size ∧ w.cell? ⟨g, i * 6, none⟩ = some (.int .i64 (nth d.jobs i).task) ∧ w.cell? ⟨g, i * 6 + 1, none⟩ = some (.int .i64 (nth d.jobs i).number) ∧ w.cell? ⟨g, i * 6 + 2, none⟩ = some (.int .i64 (nth d.jobs i).released) ∧
      w.cell? ⟨g, i * 6 + 3, none⟩ = some (.int .i64 (nth d.jobs i).used) ∧ w.cell? ⟨g, i * 6 + 4, none⟩ = some (.bool (nth d.jobs i).ran) ∧ w.cell? ⟨g, i * 6 + 5, none⟩ = some (.bool (nth d.jobs i).missed) := by
  obtain ⟨g, e, hG, hg, hc, hf, _⟩ := h.job hi
  exact ⟨g, e, hG, hg, hc 0 _ rfl, hc 1 _ rfl, hc 2 _ rfl, hc 3 _ rfl, hc 4 _ rfl, hc 5 _ rfl⟩

theorem keeperBest (gk : Nat) (G : Nat → Nat → Prop) (B : Nat) (w : World) (c : TCfg) (S : TCfgS) (m : Int) (d : TDom) (T : TDomS) (h : Kp gk G B w c S m d T) (hc : CfgOk c) (hd : DomOkW c m d) :
    Calls Try.prog 139 #[.pointer (some ⟨gk, 0, none⟩)] w fun e w' => e = .returned (.int .i64 (bestOf c d.jobs)) ∧ Below w.heap.size w w' := by
  have hk := Lib.hid h
  obtain ⟨hb, _, _, _, hlo⟩ := h
  obtain ⟨cb, fb, zb⟩ := blk hb
  have hn := hd.njobs
  go_enter Try.func139, Try.ntmps139
  go_wp2_with fail
  clear cb fb
  go_loopw [3, 12] (fun bv iv wr => ∃ (i : Nat) (b : Int), i ≤ d.jobs.length ∧ bv = .int .i64 b ∧ iv = .int .i64 i ∧ BestTo c d.jobs i b ∧ Below w.heap.size w wr) (fun bv iv wr => (d.jobs.length - intOf iv).toNat)
  case atStart => exact ⟨0, -1, Nat.zero_le _, rfl, rfl, BestTo.zero _ _, byB⟩
  case round =>
    obtain ⟨i, b, hi, rfl, rfl, hbt, hbr⟩ := hrel
    have hK := hk.out.ext hbr
    have hsz := hbr.size
    by_cases hlt : i < d.jobs.length
    · obtain ⟨g, e0, hG, hg, k0, k1, k2, k3, k4, k5⟩ := hK.dom.job_cells hlt
      have hbw := hK.blk
      rw [e0] at hbw
      obtain ⟨cw, fw, zw⟩ := blk hbw
      rw [e0]
      have hil : (i : Int) < d.jobs.length := by omega
      have hi0 : (0 : Int) ≤ i := by omega
      by_cases hb0 : b < 0
      · go_wp2_with fail
        go_quiet (fail)
        go_wp2_with fail
        go_roundw
        case rel => exact ⟨i + 1, i, by omega, rfl, by go_num, hbt.take (.inl hb0), byB⟩
        case measure => simp [intOf]; omega
      · obtain ⟨ib, hib, rfl⟩ : ∃ ib : Nat, ib < i ∧ b = ib := by
          rcases hbt with ⟨_, rfl⟩ | ⟨ib, h1, h2, _⟩
          · omega
          · exact ⟨ib, h1, h2⟩
        have hibl : (ib : Int) < d.jobs.length := by omega
        have hib0 : (0 : Int) ≤ ib := by omega
        go_wp2_with fail
        generalize hW : wr.alloc (.cells #[.int .i64 (nth d.jobs i).task, .int .i64 (nth d.jobs i).number, .int .i64 (nth d.jobs i).released, .int .i64 (nth d.jobs i).used, .bool (nth d.jobs i).ran, .bool (nth d.jobs i).missed] 110) = W1
        have hbx : W1.heap[wr.heap.size]? = some (.cells #[.int .i64 (nth d.jobs i).task, .int .i64 (nth d.jobs i).number, .int .i64 (nth d.jobs i).released, .int .i64 (nth d.jobs i).used, .bool (nth d.jobs i).ran, .bool (nth d.jobs i).missed] 110) := by rw [← hW]; exact heapAt _ _ _ rfl
        have hbr1 : Below w.heap.size w W1 := (by rw [← hW]; exact byB)
        have hK1 := hk.out.ext hbr1
        have hb1 := hK1.blk
        rw [e0] at hb1
        obtain ⟨g', e0', _, _, q0, q1, q2, q3, q4, q5⟩ := hK1.dom.job_cells (i := ib) (by omega)
        obtain rfl : g = g' := by rw [e0] at e0'; injection e0' with e; injection e
        replace hW := Lib.hid hW
        obtain ⟨cx, fx, zx⟩ := blk hbx
        obtain ⟨cy, fy, zy⟩ := blk hb1
        have HC := keeperAhead gk G B W1.drew c S m d T (hk.out.ext hbr1.drew) (nth d.jobs i) (nth d.jobs ib) (hd.job i hlt).task (hd.job ib (by omega)).task (hc.job (hd.job i hlt)) (hc.job (hd.job ib (by omega))) (hd.job i hlt).released (hd.job ib (by omega)).released hc.ntasks
        replace HC := Lib.hid HC
        replace hK := Lib.hid hK
        replace hK1 := Lib.hid hK1
        clear k0 k1 k2 k3 k4 k5 hbw cw fw zw
        (refine wp_region_still_tail 13 (by kernel_rfl) (by kernel_rfl) ?_; simp only [List.take_succ_cons, List.take_zero, List.drop_succ_cons, List.drop_zero]; (iterate 13 (with_reducible refine wpStill_step (fun K hK => ?_); replace hK := Lib.hid hK; go_simp; with_reducible refine hK.out _ ?_; clear hK K)); refine wpStill_nil ?_)
        change wpList _ _ _ _ _ W1.drew
        go_wp2_with (go_at_call 149; refine HC.out.mono ?_; rintro e w2 ⟨rfl, hb2⟩; generalize hA : aheadJ c (nth d.jobs i) (nth d.jobs ib) = ab)
        · have hbr2 : Below w.heap.size w w2 := hbr1.drew.trans (hb2.mono hbr1.drew.size)
          rename_i hcase
          exact ⟨⟨i + 1, i, by omega, rfl, by go_num, hbt.take (.inr (by rw [show (ib : Int).toNat = ib by omega, hA]; rcases hcase with h | h; omega; exact h)), hbr2⟩, by simp [intOf]; omega⟩
        · have hbr2 : Below w.heap.size w w2 := hbr1.drew.trans (hb2.mono hbr1.drew.size)
          rename_i hcase
          exact ⟨⟨i + 1, ib, by omega, rfl, by go_num, hbt.stay hib0 (by rw [show (ib : Int).toNat = ib by omega, hA]; exact hcase.2), hbr2⟩, by simp [intOf]; omega⟩
    · obtain rfl : i = d.jobs.length := by omega
      go_wp2_with fail
      refine bodyPost_ret (v := .int .i64 b) (by simp [results, Try.results139, go_sem, *]) rfl ?_
      exact ⟨by rw [hbt.best], hbr⟩
end Go.Proofs.Ytinlmkhlgclbfab
end
