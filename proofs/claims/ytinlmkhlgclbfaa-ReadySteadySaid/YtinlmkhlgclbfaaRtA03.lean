/- MemR -/
import Derived.Test.YtinlmkhlgclbfaaRtA02
namespace Go.Proofs.Ytinlmkhlgclbfaa
open Go.RowKit

/-- memory that a call has laid itself: from its start's size to its end's -/
def Rng (a b : Nat) : Nat → Prop := fun k => a ≤ k ∧ k < b
/-- memory that came in, and memory that a call has laid itself -/
def LoR (B a b : Nat) : Nat → Prop := fun k => k < B ∨ (a ≤ k ∧ k < b)

/-- in the blocks of I nothing has turned -/
def KeepI (I : Nat → Prop) (w w' : World) : Prop := ∀ k, I k → w'.heap[k]? = w.heap[k]?
theorem KeepI.refl (I : Nat → Prop) (w : World) : KeepI I w w := fun _ _ => rfl
theorem KeepI.alloc {I : Nat → Prop} {w w' : World} (h : KeepI I w w') (hI : ∀ k, I k → k < w'.heap.size) (o : Obj) : KeepI I w (w'.alloc o) :=
  fun k hk => (heap_alloc_old w' o (hI k hk)).trans (h k hk)
theorem KeepI.drew {I : Nat → Prop} {w w' : World} (h : KeepI I w w') : KeepI I w w'.drew := h
theorem KeepI.drewN {I : Nat → Prop} {w w' : World} (h : KeepI I w w') (n : Nat) : KeepI I w (w'.drewN n) := h
theorem KeepI.setCell {I : Nat → Prop} {w w' : World} (h : KeepI I w w') {p : Addr} (hp : ¬ I p.block) (u : Value) : KeepI I w (w'.setCell p u) :=
  fun k hk => (Below.heap_setCell w' p u k (fun e => hp (e ▸ hk))).trans (h k hk)
theorem KeepI.call {I : Nat → Prop} {w v w' : World} {s : Nat} (h : KeepI I w v) (hb : Below s v w') (hI : ∀ k, I k → k < s) : KeepI I w w' :=
  fun k hk => (hb.block k (hI k hk)).trans (h k hk)
theorem KeepI.mono {I J : Nat → Prop} {w w' : World} (h : KeepI I w w') (hJ : ∀ k, J k → I k) : KeepI J w w' := fun k hk => h k (hJ k hk)
theorem KeepI.trans {I : Nat → Prop} {w v w' : World} (h : KeepI I w v) (h' : KeepI I v w') : KeepI I w w' := fun k hk => (h' k hk).trans (h k hk)

theorem Sl.keepI {T : Type} {e : Cod T} {I : Nat → Prop} {w w' : World} {A : Option Addr} {c : Nat} {xs : List T} (h : Sl e I w A c xs) (hk : KeepI I w w') : Sl e I w' A c xs := h.keep hk
theorem Sl.rng {T : Type} {e : Cod T} {a b B : Nat} {w : World} {A : Option Addr} {c : Nat} {xs : List T} (h : Sl e (Rng a b) w A c xs) (hB : b ≤ B) : Sl e (Low B) w A c xs :=
  h.mono fun _ hk => Nat.lt_of_lt_of_le hk.2 hB
theorem Sl.lor {T : Type} {e : Cod T} {a b B B' : Nat} {w : World} {A : Option Addr} {c : Nat} {xs : List T} (h : Sl e (LoR B a b) w A c xs) (hB : b ≤ B') (hB' : B ≤ B') : Sl e (Low B') w A c xs :=
  h.mono fun _ hk => by rcases hk with hk | hk; exact Nat.lt_of_lt_of_le hk hB'; exact Nat.lt_of_lt_of_le hk.2 hB
/-- a row of the call's own, of flat elements, lies in the call's own memory -/
theorem sl_of_own_rng {T : Type} {k : Nat} {f : T → List Value} {hf : ∀ x, (f x).length = k} {w : World} {base : Nat} {e : TypeId} {A : Option Addr} {c n : Nat} {xs : List T} (hn : n = xs.length) (h : w.ownsRow base e k (.slice A n c) n (xs.flatMap f)) :
    Sl (Cod.flat k f hf) (Rng base w.heap.size) w A c xs := by
  subst hn
  obtain ⟨A', c', hv, hsl⟩ := sl_of_own (hf := hf) h
  injection hv with e1 e2 e3
  subst e1; subst e3
  exact hsl
/-- closed where it is used, by the tactic beside it -/
theorem byI {p : Prop} (h : p := by repeat (first | with_reducible exact KeepI.refl _ _ | with_reducible assumption | (with_reducible refine KeepI.drew ?_) | (with_reducible refine KeepI.drewN ?_ _) | ((with_reducible refine KeepI.alloc ?_ ?_ _); rotate_left; (intro kkI hkI; simp only [Low, Rng, LoR] at hkI; first | omega | (simp <;> omega) | (rcases hkI with hkI | hkI <;> first | omega | (simp <;> omega)))) | ((with_reducible refine KeepI.setCell ?_ ?_ _); rotate_left; (intro hkI; simp only [Low, Rng, LoR] at hkI; first | omega | (simp at hkI <;> omega))) | (refine KeepI.call ?_ (by with_reducible assumption) (by (intro kkI hkI; simp only [Low, Rng, LoR] at hkI; first | omega | (simp <;> omega) | (rcases hkI with hkI | hkI <;> first | omega | (simp <;> omega))))))) : p := h
theorem byM {p : Prop} (h : p := by (intro kkI hkI; simp only [Low, Rng, LoR] at hkI ⊢; (try simp at hkI ⊢); (first | omega | (rcases hkI with hkI | hkI <;> omega)))) : p := h
end Go.Proofs.Ytinlmkhlgclbfaa
