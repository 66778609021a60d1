/-
  ArrP: arrivals as plain data: how often each line of a domain came. No program in sight.
-/
import Derived.Test.YtinlmkhlgclbfaaConfigP
namespace Go.Proofs.Ytinlmkhlgclbfaa
open Go.RowKit

theorem tk_snoc {T : Type} [Inhabited T] {xs : List T} {k : Nat} (h : k < xs.length) : xs.take (k + 1) = xs.take k ++ [nth xs k] := by
  rw [List.take_add_one, nth_eq h, List.getElem?_eq_getElem h]; rfl
theorem tk_len {T : Type} {xs : List T} {k : Nat} (h : k ≤ xs.length) : (xs.take k).length = k := by rw [List.length_take]; omega

/-- does an arrival count? -/
def hitA (owners : List Int) (dom t0 t1 : Int) (a : TArr) : Bool := nth owners a.line.toNat == dom && decide (t0 ≤ a.t) && decide (a.t < t1)
def cameN (owners : List Int) (dom t0 t1 : Int) (l : List TArr) (j : Nat) : Nat := (l.filter fun a => a.line == (j : Int) && hitA owners dom t0 t1 a).length
/-- C2 -/
def cameOf (owners : List Int) (dom t0 t1 : Int) (l : List TArr) : List Int := (List.range owners.length).map fun j => (cameN owners dom t0 t1 l j : Int)

theorem cameOf_length (owners : List Int) (dom t0 t1 : Int) (l : List TArr) : (cameOf owners dom t0 t1 l).length = owners.length := by simp [cameOf]
theorem nth_cameOf {owners : List Int} {dom t0 t1 : Int} {l : List TArr} {j : Nat} (h : j < owners.length) : nth (cameOf owners dom t0 t1 l) j = cameN owners dom t0 t1 l j := by
  rw [nth_eq (by rw [cameOf_length]; exact h)]; simp [cameOf]
theorem cameN_le (owners : List Int) (dom t0 t1 : Int) (l : List TArr) (j : Nat) : cameN owners dom t0 t1 l j ≤ l.length := List.length_filter_le _ _
theorem cameOf_nil (owners : List Int) (dom t0 t1 : Int) : cameOf owners dom t0 t1 [] = List.replicate owners.length 0 := by
  refine List.ext_getElem (by simp [cameOf]) fun i h1 h2 => ?_
  simp [cameOf, cameN]
theorem cameN_snoc (owners : List Int) (dom t0 t1 : Int) (l : List TArr) (a : TArr) (j : Nat) : cameN owners dom t0 t1 (l ++ [a]) j = cameN owners dom t0 t1 l j + (if a.line = (j : Int) ∧ hitA owners dom t0 t1 a = true then 1 else 0) := by
  unfold cameN
  rw [List.filter_append, List.length_append]
  congr 1
  by_cases h1 : a.line = (j : Int)
  · cases h2 : hitA owners dom t0 t1 a <;> simp [h1, h2]
  · simp [h1]
theorem cameOf_miss {owners : List Int} {dom t0 t1 : Int} {l : List TArr} {a : TArr} (h : hitA owners dom t0 t1 a = false) : cameOf owners dom t0 t1 (l ++ [a]) = cameOf owners dom t0 t1 l := by
  unfold cameOf
  refine List.map_congr_left fun j _ => ?_
  rw [cameN_snoc, h]; simp
theorem cameOf_hit {owners : List Int} {dom t0 t1 : Int} {l : List TArr} {a : TArr} {m : Nat} (hm : a.line = (m : Int)) (hlt : m < owners.length) (h : hitA owners dom t0 t1 a = true) :
    cameOf owners dom t0 t1 (l ++ [a]) = (cameOf owners dom t0 t1 l).set m (nth (cameOf owners dom t0 t1 l) m + 1) := by
  rw [nth_cameOf hlt]
  refine List.ext_getElem (by simp [cameOf]) fun i h1 h2 => ?_
  rw [List.getElem_set]
  simp only [cameOf, List.getElem_map, List.getElem_range]
  rw [cameN_snoc, h, hm]
  by_cases e : m = i
  · subst e; simp
  · rw [if_neg e, if_neg (by omega)]; simp

/-- what arrives from one time to another one, and on, arrives in all -/
theorem cameN_add (owners : List Int) (dom t0 t1 t2 : Int) (l : List TArr) (j : Nat) (h1 : t0 ≤ t1) (h2 : t1 ≤ t2) : cameN owners dom t0 t1 l j + cameN owners dom t1 t2 l j = cameN owners dom t0 t2 l j := by
  induction l with
  | nil => rfl
  | cons a l ih =>
    have hc : ∀ t0 t1, cameN owners dom t0 t1 (a :: l) j = cameN owners dom t0 t1 l j + (if a.line = (j : Int) ∧ hitA owners dom t0 t1 a = true then 1 else 0) := by
      intro t0 t1
      unfold cameN
      rw [List.filter_cons]
      by_cases h1 : a.line = (j : Int)
      · cases h2 : hitA owners dom t0 t1 a <;> simp [h1, h2]
      · simp [h1]
    rw [hc, hc, hc]
    have key : (if a.line = (j : Int) ∧ hitA owners dom t0 t1 a = true then 1 else 0) + (if a.line = (j : Int) ∧ hitA owners dom t1 t2 a = true then 1 else 0) = (if a.line = (j : Int) ∧ hitA owners dom t0 t2 a = true then 1 else 0) := by
      unfold hitA
      by_cases e1 : a.line = (j : Int)
      · cases e2 : (nth owners a.line.toNat == dom)
        · simp
        · simp only [e1, Bool.true_and, Bool.and_eq_true, decide_eq_true_eq, true_and]
          (repeat' split) <;> omega
      · simp [e1]
    omega
end Go.Proofs.Ytinlmkhlgclbfaa
