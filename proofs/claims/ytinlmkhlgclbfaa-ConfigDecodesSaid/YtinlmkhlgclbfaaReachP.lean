/-
  ReachP: which domains reach which, on plain data. No program in sight.
-/
import Derived.Test.YtinlmkhlgclbfaaConfigP
namespace Go.Proofs.Ytinlmkhlgclbfaa
open Go.RowKit

/-- one channel -/
def stepR (x : TChan) (r : List Bool) : List Bool := r.set x.dst.toNat (nth r x.dst.toNat || nth r x.src.toNat)
/-- all channels, once -/
def passR (xs : List TChan) (r : List Bool) : List Bool := xs.foldl (fun r x => stepR x r) r
def iterR (xs : List TChan) : Nat → List Bool → List Bool
  | 0, r => r
  | n + 1, r => passR xs (iterR xs n r)
def unitR (n i : Nat) : List Bool := (List.replicate n false).set i true
/-- B4: whom domain i reaches -/
def reachRow (c : TCfg) (i : Nat) : List Bool := iterR c.chans c.doms.toNat (unitR c.doms.toNat i)

theorem stepR_length (x : TChan) (r : List Bool) : (stepR x r).length = r.length := by simp [stepR]
theorem passR_snoc (xs : List TChan) (x : TChan) (r : List Bool) : passR (xs ++ [x]) r = stepR x (passR xs r) := by unfold passR; rw [List.foldl_append]; rfl
theorem passR_length (xs : List TChan) (r : List Bool) : (passR xs r).length = r.length := by
  unfold passR
  induction xs generalizing r with
  | nil => rfl
  | cons x l ih => rw [List.foldl_cons, ih, stepR_length]
theorem iterR_length (xs : List TChan) (n : Nat) (r : List Bool) : (iterR xs n r).length = r.length := by
  induction n with
  | zero => rfl
  | succ n ih => unfold iterR; rw [passR_length, ih]
theorem unitR_length (n i : Nat) : (unitR n i).length = n := by simp [unitR]

theorem stepR_up {x : TChan} {r : List Bool} {j : Nat} (hj : j < r.length) (h : nth r j = true) : nth (stepR x r) j = true := by
  unfold stepR
  rw [nth_set hj]
  split
  · rename_i e; subst e; simp [h]
  · exact h
theorem passR_up {xs : List TChan} : ∀ {r : List Bool} {j : Nat}, j < r.length → nth r j = true → nth (passR xs r) j = true := by
  unfold passR
  induction xs with
  | nil => intro r j _ h; exact h
  | cons x l ih => intro r j hj h; rw [List.foldl_cons]; exact ih (by rw [stepR_length]; exact hj) (stepR_up hj h)

def falses (r : List Bool) : Nat := (r.filter fun b => !b).length
theorem falses_le (r : List Bool) : falses r ≤ r.length := List.length_filter_le _ _
theorem bools_ext {r s : List Bool} (h : r.length = s.length) (e : ∀ j, j < r.length → nth r j = nth s j) : r = s := by
  refine List.ext_getElem h fun j h1 h2 => ?_
  rw [← nth_eq h1, ← nth_eq h2]; exact e j h1
/-- what grows has fewer that are false, or is the same -/
theorem falses_mono : ∀ {r s : List Bool}, r.length = s.length → (∀ j, j < r.length → nth r j = true → nth s j = true) → r = s ∨ falses s < falses r := by
  intro r
  induction r with
  | nil => intro s h _; left; exact (List.eq_nil_of_length_eq_zero (by simpa using h.symm)).symm
  | cons a r ih =>
    intro s h hup
    cases s with
    | nil => simp at h
    | cons b s =>
      have h0 := hup 0 (by simp)
      have hr := ih (s := s) (by simpa using h) fun j hj e => hup (j + 1) (by simpa using hj) e
      unfold falses at hr ⊢
      change a = true → b = true at h0
      cases a <;> cases b <;> simp only [List.filter_cons, Bool.not_false, Bool.not_true, if_true, if_false, Bool.false_eq_true, List.length_cons] at *
      · rcases hr with rfl | hr
        · exact .inl rfl
        · right; omega
      · rcases hr with rfl | hr
        · right; omega
        · right; omega
      · simp at h0
      · rcases hr with rfl | hr
        · exact .inl rfl
        · right; exact hr
theorem pass_less (xs : List TChan) (r : List Bool) : passR xs r = r ∨ falses (passR xs r) < falses r := by
  rcases falses_mono (r := r) (s := passR xs r) (passR_length xs r).symm (fun j hj h => passR_up hj h) with h | h
  · exact .inl h.symm
  · exact .inr h
theorem iter_fix (xs : List TChan) (r : List Bool) : ∀ n, passR xs (iterR xs n r) = iterR xs n r ∨ falses (iterR xs n r) + n ≤ falses r := by
  intro n
  induction n with
  | zero => right; simp [iterR]
  | succ n ih =>
    rcases ih with h | h
    · left; unfold iterR; rw [h, h]
    · rcases pass_less xs (iterR xs n r) with h2 | h2
      · left; unfold iterR; rw [h2, h2]
      · right; unfold iterR; omega
theorem falses_unit {n i : Nat} (h : i < n) : falses (unitR n i) < n := by
  have h1 := falses_le (unitR n i)
  rw [unitR_length] at h1
  rcases Nat.lt_or_ge (falses (unitR n i)) n with h2 | h2
  · exact h2
  · exfalso
    have h3 : falses (unitR n i) = (unitR n i).length := by rw [unitR_length]; omega
    unfold falses at h3
    rw [List.length_filter_eq_length_iff] at h3
    have := h3 true (by rw [List.mem_iff_getElem]; exact ⟨i, by rw [unitR_length]; exact h, by simp [unitR]⟩)
    simp at this
/-- nothing more is reached -/
theorem reach_fix {c : TCfg} {i : Nat} (h : i < c.doms.toNat) : passR c.chans (reachRow c i) = reachRow c i := by
  unfold reachRow
  rcases iter_fix c.chans (unitR c.doms.toNat i) c.doms.toNat with h1 | h1
  · exact h1
  · have := falses_unit h; omega
theorem iter_stay {xs : List TChan} {r : List Bool} {n : Nat} (h : passR xs (iterR xs n r) = iterR xs n r) : ∀ m, iterR xs (n + m) r = iterR xs n r := by
  intro m
  induction m with
  | zero => rfl
  | succ m ih =>
    show passR xs (iterR xs (n + m) r) = _
    rw [ih, h]
theorem iter_unique {xs : List TChan} {r : List Bool} {n m : Nat} (h : passR xs (iterR xs n r) = iterR xs n r) (h' : passR xs (iterR xs m r) = iterR xs m r) : iterR xs n r = iterR xs m r := by
  rcases Nat.le_total n m with e | e
  · obtain ⟨k, rfl⟩ := Nat.exists_eq_add_of_le e
    exact (iter_stay h k).symm
  · obtain ⟨k, rfl⟩ := Nat.exists_eq_add_of_le e
    exact iter_stay h' k
theorem reach_any {c : TCfg} {i n : Nat} (h : i < c.doms.toNat) (hn : passR c.chans (iterR c.chans n (unitR c.doms.toNat i)) = iterR c.chans n (unitR c.doms.toNat i)) : iterR c.chans n (unitR c.doms.toNat i) = reachRow c i :=
  iter_unique hn (reach_fix h)
theorem reachRow_length (c : TCfg) (i : Nat) : (reachRow c i).length = c.doms.toNat := by unfold reachRow; rw [iterR_length, unitR_length]
/-- a step that changes nothing; one that turns a false to true -/
theorem stepR_same {x : TChan} {r : List Bool} (h : nth r x.src.toNat = false ∨ nth r x.dst.toNat = true) : stepR x r = r := by
  unfold stepR
  refine bools_ext (by simp) fun j hj => ?_
  simp at hj
  rw [nth_set hj]
  split
  · rename_i e; subst e
    rcases h with h | h <;> simp [h]
  · rfl
theorem stepR_turn {x : TChan} {r : List Bool} (h : nth r x.src.toNat = true) : stepR x r = r.set x.dst.toNat true := by unfold stepR; simp [h]
end Go.Proofs.Ytinlmkhlgclbfaa
