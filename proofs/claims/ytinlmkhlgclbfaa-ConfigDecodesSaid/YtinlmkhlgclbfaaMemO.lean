/-
  MemO: rows of the call's own, side by side: what leaves them as they were.
-/
import Derived.Test.YtinlmkhlgclbfaaMemR
namespace Go.Proofs.Ytinlmkhlgclbfaa
open Go.RowKit

theorem own_keep {w w' : World} {base : Nat} {e : TypeId} {size : Nat} {v : Value} {n : Nat} {xs : List Value} (h : w.ownsRow base e size v n xs) (hk : ∀ b, v.ownBlock = some b → w'.heap[b]? = w.heap[b]?) : w'.ownsRow base e size v n xs := by
  obtain ⟨h1, h2⟩ := h
  refine ⟨h1, ?_⟩
  rcases h2 with h2 | ⟨g, cap, cur, rfl, hb, hg, h3⟩
  · exact Or.inl h2
  · exact Or.inr ⟨g, cap, cur, rfl, hb, (hk g rfl).trans hg, h3⟩
theorem own_lt {w : World} {base : Nat} {e : TypeId} {size : Nat} {v : Value} {n : Nat} {xs : List Value} (h : w.ownsRow base e size v n xs) : ∀ b, v.ownBlock = some b → base ≤ b ∧ b < w.heap.size := by
  intro b hb
  obtain ⟨_, h2⟩ := h
  rcases h2 with ⟨rfl, _⟩ | ⟨g, cap, cur, rfl, hbb, hg, _⟩
  · cases hb
  · cases hb
    exact ⟨hbb, (Array.getElem?_eq_some_iff.1 hg).1⟩
/-- blocks that one value owns -/
def Own (v : Value) : Nat → Prop := fun b => v.ownBlock = some b
theorem own_keepI {w w' : World} {base : Nat} {e : TypeId} {size : Nat} {v : Value} {n : Nat} {xs : List Value} (h : w.ownsRow base e size v n xs) (hk : KeepI (Own v) w w') : w'.ownsRow base e size v n xs := own_keep h hk
theorem KeepI.grown {I : Nat → Prop} {w v w' : World} {row : Option Nat} (h : KeepI I w v) (hg : v.grownBy w' row) (hI : ∀ k, I k → k < v.heap.size ∧ row ≠ some k) : KeepI I w w' :=
  fun k hk => (hg.block k (hI k hk).1 (Ne.symm (hI k hk).2)).trans (h k hk)
end Go.Proofs.Ytinlmkhlgclbfaa
