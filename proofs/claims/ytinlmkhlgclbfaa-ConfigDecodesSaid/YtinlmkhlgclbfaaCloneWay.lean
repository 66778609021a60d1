/-
  CloneWay: contract of slices.Clone at []api.Way. (Printed by wip/tools/clone.py.)
-/
import Derived.Test.YtinlmkhlgclbfaaMailB
import Derived.Test.YtinlmkhlgclbfaaData
namespace Go.Proofs.Ytinlmkhlgclbfaa
open Go.RowKit
set_option maxRecDepth 100000
set_option maxHeartbeats 400000

theorem tyWay : TyS Try.prog 54 115 (.agg #[.int .i64 0, .bool false]) 2 16 := ⟨Try.underlying54, info_of (by kernel_rfl), rfl, by decide⟩

theorem cloneWay (xs : List TWay) (A : Option Addr) (c : Nat) (B : Nat) (w : World) (hB : B ≤ w.heap.size) (hs : Sl cWay (Low B) w A c xs) (hb : xs.length * 16 ≤ 140737488355328) :
    Calls Try.prog 107 #[.slice A xs.length c] w (RetRow 115 2 xs.length (xs.flatMap TWay.cells) w) := by
  have hm : xs.length ≤ maxLen := Nat.le_trans hs.cap hs.max
  cases A with
  | none =>
    have h0 : xs = [] := List.eq_nil_of_length_eq_zero (by have := hs.nil rfl; have := hs.cap; omega)
    subst h0
    have hq := fun w => Lib.run_eql_slice_nil (P := Try.prog) w 54 115 none 0 c 0 0 Try.underlying54
    go_enter Try.func107, Try.ntmps107
    go_wp2
    go_ret
    exact ⟨_, _, rfl, World.ownsRow_nil _ _ _ _, Below.refl _ _⟩
  | some ad =>
    have hq := fun w => Lib.run_eql_slice_nil (P := Try.prog) w 54 115 (some ad) xs.length c 0 0 Try.underlying54
    have hsrc1 := Lib.hid ((hs.next hB (w' := w.alloc (.cells #[] 115)) (by repeat (first | with_reducible exact Below.refl _ _ | with_reducible assumption | (with_reducible refine Below.drew ?_) | (with_reducible refine Below.alloc ?_ ?_ _; rotate_left; (first | omega | (simp <;> omega))) | (with_reducible refine Below.setCell ?_ ?_ _; rotate_left; (first | omega | (simp <;> omega))) | (with_reducible refine below_drewN ?_ _) | (refine Below.trans ?_ (Below.mono (by with_reducible assumption) (by first | omega | (simp <;> omega))))))).src (f := TWay.cells))
    clear hs
    have ho := World.ownsRow_made w (base := w.heap.size) (e := 115) (size := 2) #[] 0 (Nat.le_refl _) (by unfold maxLen; omega) rfl
    go_enter Try.func107, Try.ntmps107
    go_wp2_with (at_builtin; refine wpList_app rfl (.tmp 5) (.tmp 6) _ rfl w.heap.size tyWay _ 0 [] (by rfl) ho (some ad) xs.length c (xs.flatMap TWay.cells) (by rfl) hsrc1.out (one_way _) ?_ ?_ ?_ ?_; (omega); (omega); (simp); intro A1 c1 w1 hown1 hg1 hat1)
    go_ret
    simp only [Nat.zero_add, List.nil_append] at hown1
    exact ⟨A1, c1, by simp, hown1, grown_below (by repeat (first | with_reducible exact Below.refl _ _ | with_reducible assumption | (with_reducible refine Below.drew ?_) | (with_reducible refine Below.alloc ?_ ?_ _; rotate_left; (first | omega | (simp <;> omega))) | (with_reducible refine Below.setCell ?_ ?_ _; rotate_left; (first | omega | (simp <;> omega))) | (with_reducible refine below_drewN ?_ _) | (refine Below.trans ?_ (Below.mono (by with_reducible assumption) (by first | omega | (simp <;> omega)))))) (by simp) ho hg1⟩
end Go.Proofs.Ytinlmkhlgclbfaa
