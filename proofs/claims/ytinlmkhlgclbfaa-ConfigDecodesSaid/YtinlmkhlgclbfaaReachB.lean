/-
  ReachB: config.Reaches: one step of one channel (region 17).
-/
import Derived.Test.YtinlmkhlgclbfaaProg
import Derived.Test.YtinlmkhlgclbfaaBase
import Derived.StillTailTactics
import Derived.Deep.RegionLaw
namespace Go.Proofs.Ytinlmkhlgclbfaa
open Go.RowKit
set_option maxRecDepth 100000
set_option maxHeartbeats 1000000

/-- the first region of n operations -/
def regionOf (n : Nat) : Code → Option Code
  | .region i ops d => if ops.size = n then some (.region i ops d) else none
  | .seq a b => match regionOf n a with
    | some c => some c
    | none => regionOf n b
  | .cond _ a b => match regionOf n a with
    | some c => some c
    | none => regionOf n b
  | .block _ c => regionOf n c
  | .loop c => regionOf n c
  | .scope c => regionOf n c
  | _ => none
noncomputable def turnCode : Code := ((Try.f83.body.bind (regionOf 26)).getD .skip)

theorem reachTurn (C : Code) (hC : C = turnCode) (n ks kd i g gi gx c1 : Nat) (xz : Int) (b1 b2 : Bool) (hi1 : i < n) (hs1 : ks < n) (hd1 : kd < n) (wr : World) (hn4 : n ≤ 4)
    (cx : ∀ oo, wr.cell? ⟨gx, oo, none⟩ = #[.int .i64 ks, .int .i64 kd, .int .i64 xz][oo]?) (fx : ∀ oo, wr.frozen? ⟨gx, oo, none⟩ = false) (zx : gx < wr.heap.size)
    (hcr : wr.cell? ⟨g, i, none⟩ = some (.slice (some ⟨gi, 0, none⟩) n n)) (hcs : wr.cell? ⟨gi, ks, none⟩ = some (.bool b1)) (hcd : wr.cell? ⟨gi, kd, none⟩ = some (.bool b2))
    (fg : ∀ oo, wr.frozen? ⟨gi, oo, none⟩ = false) (zg : gi < wr.heap.size)
    (u0 u1 u2 u4 u5 u6 u9 u10 u11 u12 u13 u14 u15 u16 u17 u18 u19 u20 u21 u22 u23 u24 u25 u26 u27 u28 u29 u30 u31 u32 u33 u34 u35 u36 u37 u38 u39 u40 u41 u42 u43 u44 u45 u46 u47 u48 u49 u50 u51 u52 u53 u54 u55 u56 u57 u58 u59 u60 u61 u62 u63 u64 u65 u66 u67 u68 u69 : Value) (Q : Exit → Act → World → Prop)
    (hQ : ∀ v41 v42 v43 v44 v45 v46 v47 v48 v49 v50 v51 v52 v53 v54 v55 v56 v57 v58 v59 v60 v61 v62 v63 v64 v65 : Value, Q .normal ⟨#[u0, u1, u2, .slice (some ⟨g, 0, none⟩) n c1, u4, u5, u6, .pointer (some ⟨gx, 0, none⟩), .int .i64 i, u9, u10, u11, u12, u13, u14, u15, u16, u17, u18, u19, u20, u21, u22, u23, u24, u25, u26, u27, u28, u29, u30, u31, u32, u33, u34, u35, u36, u37, u38, u39, u40, v41, v42, v43, v44, v45, v46, v47, v48, v49, v50, v51, v52, v53, v54, v55, v56, v57, v58, v59, v60, v61, v62, v63, v64, v65, u66, u67, u68, u69], []⟩ (wr.setCell ⟨gi, kd, none⟩ (.bool (b2 || b1))).drew) :
    Code.wp Try.prog C Q ⟨#[u0, u1, u2, .slice (some ⟨g, 0, none⟩) n c1, u4, u5, u6, .pointer (some ⟨gx, 0, none⟩), .int .i64 i, u9, u10, u11, u12, u13, u14, u15, u16, u17, u18, u19, u20, u21, u22, u23, u24, u25, u26, u27, u28, u29, u30, u31, u32, u33, u34, u35, u36, u37, u38, u39, u40, u41, u42, u43, u44, u45, u46, u47, u48, u49, u50, u51, u52, u53, u54, u55, u56, u57, u58, u59, u60, u61, u62, u63, u64, u65, u66, u67, u68, u69], []⟩ wr := by
  subst hC
  have hi0 : (0 : Int) ≤ i := by omega
  have hks0 : (0 : Int) ≤ ks := by omega
  have hkd0 : (0 : Int) ≤ kd := by omega
  have hi2 : (i : Int) < n := by omega
  have hks2 : (ks : Int) < n := by omega
  have hkd2 : (kd : Int) < n := by omega
  replace hQ := Lib.hid hQ
  conv => arg 2; whnf
  cases b2
  · (refine wp_region_still_tail 25 (by kernel_rfl) (by kernel_rfl) ?_; simp only [List.take_succ_cons, List.take_zero, List.drop_succ_cons, List.drop_zero]; (iterate 25 (with_reducible refine wpStill_step (fun K hK => ?_); replace hK := Lib.hid hK; go_simp; with_reducible refine hK.out _ ?_; clear hK K)); refine wpStill_nil ?_)
    change wpList _ _ _ _ _ wr.drew
    go_wp2_with fail
    exact hQ.out _ _ _ _ _ _ _ _ _ _ _ _ _ _ _ _ _ _ _ _ _ _ _ _ _ 
  · (refine wp_region_still_tail 25 (by kernel_rfl) (by kernel_rfl) ?_; simp only [List.take_succ_cons, List.take_zero, List.drop_succ_cons, List.drop_zero]; (iterate 25 (with_reducible refine wpStill_step (fun K hK => ?_); replace hK := Lib.hid hK; go_simp; with_reducible refine hK.out _ ?_; clear hK K)); refine wpStill_nil ?_)
    change wpList _ _ _ _ _ wr.drew
    go_wp2_with fail
    exact hQ.out _ _ _ _ _ _ _ _ _ _ _ _ _ _ _ _ _ _ _ _ _ _ _ _ _ 
end Go.Proofs.Ytinlmkhlgclbfaa
