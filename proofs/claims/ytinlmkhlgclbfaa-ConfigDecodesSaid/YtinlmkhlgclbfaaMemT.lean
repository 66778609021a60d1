/-
  MemT: a slice of flat things that fills a block. No program in sight.
-/
import Derived.Test.YtinlmkhlgclbfaaMemS
namespace Go.Proofs.Ytinlmkhlgclbfaa
open Go.RowKit

theorem flat_at {T : Type} {k : Nat} {f : T → List Value} (hf : ∀ x, (f x).length = k) : ∀ (l : List T) (q r : Nat) (hq : q < l.length), r < k → (l.flatMap f)[q * k + r]? = (f l[q])[r]? := by
  intro l
  induction l with
  | nil => intro q r hq; simp at hq
  | cons x l ih =>
    intro q r hq hr
    cases q with
    | zero => simp only [List.flatMap_cons, Nat.zero_mul, Nat.zero_add, List.getElem_cons_zero]; rw [List.getElem?_append_left (by rw [hf]; exact hr)]
    | succ q =>
      simp only [List.flatMap_cons, List.getElem_cons_succ]
      rw [List.getElem?_append_right (by rw [hf, Nat.add_mul]; omega), hf]
      rw [show (q + 1) * k + r - k = q * k + r by rw [Nat.add_mul]; omega]
      exact ih q r (by simpa using hq) hr
theorem sl_block {T : Type} {k : Nat} {f : T → List Value} {hf : ∀ x, (f x).length = k} {I : Nat → Prop} {w : World} {g n : Nat} {t : TypeId} {cs : Array Value} {xs : List T} (h : w.heap[g]? = some (.cells cs t (0, 0))) (hcs : cs.toList = xs.flatMap f) (hI : I g) (hn : xs.length ≤ n) (hm : n ≤ maxLen) :
    Sl (Cod.flat k f hf) I w (some ⟨g, 0, none⟩) n xs := by
  refine ⟨hn, hm, fun e => (by cases e), fun i hi => ⟨g, 0, f xs[i], rfl, hI, rfl, fun j u hu => ?_⟩⟩
  rw [(blk h).1]
  have hj : j < k := by have := (List.getElem?_eq_some_iff.1 hu).1; rw [hf] at this; exact this
  show cs[0 + i * k + j]? = _
  rw [Nat.zero_add, ← Array.getElem?_toList, hcs, flat_at hf xs i j hi hj]
  exact hu
end Go.Proofs.Ytinlmkhlgclbfaa
