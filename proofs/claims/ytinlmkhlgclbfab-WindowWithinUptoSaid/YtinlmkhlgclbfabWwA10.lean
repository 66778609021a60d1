/- OwnC -/
import Derived.Test.YtinlmkhlgclbfabWwA03
import Derived.Test.YtinlmkhlgclbfabWwA09
import Derived.Laws.CopyOwn
namespace Go.Proofs.Ytinlmkhlgclbfab
open Go.RowKit

/-- HOW A VALUE OF A TYPE LIES IN CELLS AND OWNS WHAT IT REACHES, all of it in blocks of F -/
structure OCod (T : Type) where
  cod : Cod T
  rel : (Nat → Prop) → World → List Value → T → Prop
  toRead : ∀ {F w cs x}, rel F w cs x → cod.rel F w cs x
  keep : ∀ {F w w' cs x}, rel F w cs x → (∀ b, F b → w'.heap[b]? = w.heap[b]?) → rel F w' cs x
  mono : ∀ {F G w cs x}, rel F w cs x → (∀ b, F b → G b) → rel G w cs x

def OCod.flat {T : Type} (k : Nat) (f : T → List Value) (h : ∀ x, (f x).length = k) : OCod T where
  cod := Cod.flat k f h
  rel := fun _ _ cs x => cs = f x
  toRead := fun h => h
  keep := fun h _ => h
  mono := fun h _ => h

/-- a slice that owns its row, and all that its elements own, each apart from the others -/
def OSl {T : Type} (e : OCod T) (E : TypeId) (F : Nat → Prop) (w : World) (v : Value) (xs : List T) : Prop :=
  ∃ (ess : List (List Value)) (G : Nat → Nat → Prop), ess.length = xs.length ∧ w.ownsRow 0 E e.cod.size v xs.length ess.flatten ∧ (∀ b, v.ownBlock = some b → F b) ∧
    (∀ i es x, ess[i]? = some es → xs[i]? = some x → e.rel (G i) w es x) ∧ (∀ i b, G i b → F b ∧ v.ownBlock ≠ some b) ∧ (∀ i j b, i ≠ j → G i b → ¬ G j b)

theorem flatten_slot {T : Type} {k : Nat} : ∀ (ess : List (List T)) (i : Nat) (es : List T), (∀ e ∈ ess, e.length = k) → ess[i]? = some es → ∀ j u, es[j]? = some u → ess.flatten[i * k + j]? = some u := by
  intro ess
  induction ess with
  | nil => intro i es _ h; simp at h
  | cons a l ih =>
    intro i es hk hi j u hu
    cases i with
    | zero =>
      simp at hi; subst hi
      rw [List.flatten_cons, Nat.zero_mul, Nat.zero_add, List.getElem?_append_left (by have := (List.getElem?_eq_some_iff.1 hu).1; exact this)]
      exact hu
    | succ i =>
      have ha := hk a (by simp)
      rw [List.flatten_cons, List.getElem?_append_right (by rw [ha, Nat.add_mul]; omega), ha]
      rw [show (i + 1) * k + j - k = i * k + j by rw [Nat.add_mul]; omega]
      exact ih i es (fun e he => hk e (by simp [he])) (by simpa using hi) j u hu

theorem OSl.keep {T : Type} {e : OCod T} {E : TypeId} {F : Nat → Prop} {w w' : World} {v : Value} {xs : List T} (h : OSl e E F w v xs) (hk : ∀ b, F b → w'.heap[b]? = w.heap[b]?) : OSl e E F w' v xs := by
  obtain ⟨ess, G, h1, h2, h3, h4, h5, h6⟩ := h
  exact ⟨ess, G, h1, own_keep h2 fun b hb => hk b (h3 b hb), h3, fun i es x hi hx => e.keep (h4 i es x hi hx) fun b hb => hk b (h5 i b hb).1, h5, h6⟩
theorem OSl.keepI {T : Type} {e : OCod T} {E : TypeId} {F : Nat → Prop} {w w' : World} {v : Value} {xs : List T} (h : OSl e E F w v xs) (hk : KeepI F w w') : OSl e E F w' v xs := h.keep hk
theorem OSl.mono {T : Type} {e : OCod T} {E : TypeId} {F G : Nat → Prop} {w : World} {v : Value} {xs : List T} (h : OSl e E F w v xs) (hk : ∀ b, F b → G b) : OSl e E G w v xs := by
  obtain ⟨ess, G', h1, h2, h3, h4, h5, h6⟩ := h
  exact ⟨ess, G', h1, h2, fun b hb => hk b (h3 b hb), h4, fun i b hb => ⟨hk b (h5 i b hb).1, (h5 i b hb).2⟩, h6⟩
theorem OSl.nil {T : Type} (e : OCod T) (E : TypeId) (F : Nat → Prop) (w : World) : OSl e E F w (.slice none 0 0) [] :=
  ⟨[], fun _ _ => False, rfl, ⟨by simp, .inl ⟨rfl, rfl⟩⟩, (fun b hb => by cases hb), (fun i es x hi => by simp at hi), fun _ _ h => h.elim, fun _ _ _ _ h => h.elim⟩

theorem OSl.form {T : Type} {e : OCod T} {E : TypeId} {F : Nat → Prop} {w : World} {v : Value} {xs : List T} (h : OSl e E F w v xs) : ∃ A c, v = .slice A xs.length c := by
  obtain ⟨ess, G, h1, h2, _⟩ := h
  obtain ⟨A, c, hv, _⟩ := own_form h2
  exact ⟨A, c, hv⟩
theorem ess_len {T : Type} {e : OCod T} {F : Nat → Nat → Prop} {w : World} {xs : List T} {ess : List (List Value)} (h1 : ess.length = xs.length) (h4 : ∀ i es x, ess[i]? = some es → xs[i]? = some x → e.rel (F i) w es x) : ∀ es ∈ ess, es.length = e.cod.size := by
  intro es hes
  obtain ⟨i, hi, rfl⟩ := List.getElem_of_mem hes
  exact e.cod.len (e.toRead (h4 i ess[i] xs[i] (List.getElem?_eq_getElem hi) (List.getElem?_eq_getElem (by omega))))
theorem OSl.read {T : Type} {e : OCod T} {E : TypeId} {F : Nat → Prop} {w : World} {A : Option Addr} {n c : Nat} {xs : List T} (h : OSl e E F w (.slice A n c) xs) : Sl e.cod F w A c xs := by
  obtain ⟨ess, G, h1, h2, h3, h4, h5, h6⟩ := h
  have hlen := ess_len h1 h4
  obtain ⟨A', c', hv, hn, hm, hnil, _, hcase⟩ := own_form h2
  injection hv with e1 e2 e3
  subst e1; subst e3
  refine ⟨hn, hm, hnil, fun i hi => ?_⟩
  rcases hcase with ⟨_, h0, _⟩ | ⟨g, rfl, _, _, hc⟩
  · omega
  · have hi' : i < ess.length := by omega
    refine ⟨g, 0, ess[i], rfl, h3 g rfl, e.cod.mono (e.toRead (h4 i ess[i] xs[i] (List.getElem?_eq_getElem hi') (List.getElem?_eq_getElem hi))) fun b hb => (h5 i b hb).1, fun j u hu => ?_⟩
    have := hc (i * e.cod.size + j) u (flatten_slot ess i ess[i] hlen (List.getElem?_eq_getElem hi') j u hu)
    rwa [show 0 + i * e.cod.size + j = 0 + (i * e.cod.size + j) by omega]

/-- a slice of slices -/
def OCod.slice {T : Type} (E : TypeId) (e : OCod T) : OCod (List T) where
  cod := e.cod.slice
  rel := fun F w cs xs => ∃ v, cs = [v] ∧ OSl e E F w v xs
  toRead := fun {F w cs x} ⟨v, h, hs⟩ => by
    obtain ⟨A, c, rfl⟩ := hs.form
    exact ⟨A, c, h, hs.read⟩
  keep := fun ⟨v, h, hs⟩ hk => ⟨v, h, hs.keep hk⟩
  mono := fun ⟨v, h, hs⟩ hk => ⟨v, h, hs.mono hk⟩

/-- flat elements: the row alone -/
theorem osl_flat {T : Type} {k : Nat} {f : T → List Value} {hf : ∀ x, (f x).length = k} {E : TypeId} {F : Nat → Prop} {w : World} {v : Value} {xs : List T} :
    OSl (OCod.flat k f hf) E F w v xs ↔ w.ownsRow 0 E k v xs.length (xs.flatMap f) ∧ ∀ b, v.ownBlock = some b → F b := by
  constructor
  · rintro ⟨ess, G, h1, h2, h3, h4, _⟩
    have : ess = xs.map f := by
      refine List.ext_getElem? fun i => ?_
      rcases Nat.lt_or_ge i xs.length with hi | hi
      · have hi' : i < ess.length := by omega
        have := h4 i ess[i] xs[i] (List.getElem?_eq_getElem hi') (List.getElem?_eq_getElem hi)
        rw [List.getElem?_eq_getElem hi', List.getElem?_map, List.getElem?_eq_getElem hi]
        exact congrArg some this
      · rw [List.getElem?_eq_none (by omega), List.getElem?_eq_none (by simpa using hi)]
    subst this
    rw [List.flatMap]
    exact ⟨h2, h3⟩
  · rintro ⟨h2, h3⟩
    refine ⟨xs.map f, fun _ _ => False, by simp, by rw [← List.flatMap]; exact h2, h3, fun i es x hi hx => ?_, fun _ _ h => h.elim, fun _ _ _ _ h => h.elim⟩
    rw [List.getElem?_map, hx] at hi
    simp at hi
    exact hi.symm

/-- what is behind an append: the old elements' cells 'ess', the new one's 'es' -/
theorem osl_app {T : Type} {e : OCod T} {E : TypeId} {F Fx F' : Nat → Prop} {w w' : World} {v v' : Value} {xs : List T} {x : T} {ess : List (List Value)} {G : Nat → Nat → Prop} {es : List Value}
    (h1 : ess.length = xs.length) (h4 : ∀ i es x, ess[i]? = some es → xs[i]? = some x → e.rel (G i) w es x) (h5 : ∀ i b, G i b → F b ∧ v.ownBlock ≠ some b) (h6 : ∀ i j b, i ≠ j → G i b → ¬ G j b)
    (hx : e.rel Fx w es x) (hd : ∀ b, F b → ¬ Fx b) (hlt : ∀ b, F b ∨ Fx b → b < w.heap.size) (h3 : ∀ b, v.ownBlock = some b → F b)
    (hown : w'.ownsRow 0 E e.cod.size v' (xs.length + 1) (ess.flatten ++ es)) (hg : w.grownBy w' v.ownBlock) (hat : v'.ownBlock = v.ownBlock ∨ v'.ownBlock = some w.heap.size)
    (hF : ∀ b, F b ∨ Fx b → F' b) (hF' : ∀ b, v'.ownBlock = some b → F' b) : OSl e E F' w' v' (xs ++ [x]) := by
  have hne : ∀ b, F b ∨ Fx b → v.ownBlock ≠ some b → v'.ownBlock ≠ some b := by
    intro b hb hv
    rcases hat with e1 | e1
    · rw [e1]; exact hv
    · rw [e1]; intro e2; injection e2 with e2; have := hlt b hb; omega
  have hxv : ∀ b, Fx b → v.ownBlock ≠ some b := fun b hb e1 => hd b (h3 b e1) hb
  refine ⟨ess ++ [es], fun i => if i = xs.length then Fx else if i < xs.length then G i else fun _ => False, by simp [h1], by simpa using hown, hF', fun i es' x' hi hx' => ?_, fun i b hb => ?_, fun i j b hij hi hj => ?_⟩
  · dsimp only
    by_cases e1 : i = xs.length
    · subst e1
      rw [if_pos rfl]
      rw [← h1, List.getElem?_append_right (Nat.le_refl _)] at hi
      rw [List.getElem?_append_right (Nat.le_refl _)] at hx'
      simp at hi hx'
      subst hi; subst hx'
      exact e.keep hx fun b hb => hg.block b (hlt b (.inr hb)) (Ne.symm (hxv b hb))
    · have hi' : i < xs.length := by have := (List.getElem?_eq_some_iff.1 hx').1; simp at this; omega
      rw [if_neg e1, if_pos hi']
      rw [List.getElem?_append_left (by omega)] at hi hx'
      exact e.keep (h4 i es' x' hi hx') fun b hb => hg.block b (hlt b (.inl (h5 i b hb).1)) (Ne.symm (h5 i b hb).2)
  · dsimp only at hb
    by_cases e1 : i = xs.length
    · rw [if_pos e1] at hb
      exact ⟨hF b (.inr hb), hne b (.inr hb) (hxv b hb)⟩
    · rw [if_neg e1] at hb
      split at hb
      · exact ⟨hF b (.inl (h5 i b hb).1), hne b (.inl (h5 i b hb).1) (h5 i b hb).2⟩
      · exact hb.elim
  · dsimp only at hi hj
    by_cases e1 : i = xs.length
    · rw [if_pos e1] at hi
      rw [if_neg (by omega)] at hj
      split at hj
      · exact hd b (h5 j b hj).1 hi
      · exact hj.elim
    · rw [if_neg e1] at hi
      split at hi
      · by_cases e2 : j = xs.length
        · rw [if_pos e2] at hj
          exact hd b (h5 i b hi).1 hj
        · rw [if_neg e2] at hj
          split at hj
          · exact h6 i j b hij hi hj
          · exact hj.elim
      · exact hi.elim

/-- one element of what is owned: what it owns, and how it is put back when it has turned -/
theorem osl_elem {T : Type} [Inhabited T] {e : OCod T} {E : TypeId} {F : Nat → Prop} {w : World} {v : Value} {xs : List T} (h : OSl e E F w v xs) {i : Nat} (hi : i < xs.length) :
    ∃ g c es Gi, v = .slice (some ⟨g, 0, none⟩) xs.length c ∧ F g ∧ e.rel Gi w es (nth xs i) ∧ CellsAt w g (i * e.cod.size) es ∧ (∀ b, Gi b → F b ∧ b ≠ g) ∧
      (∀ w' x', e.rel Gi w' es x' → (∀ b, F b → ¬ Gi b → w'.heap[b]? = w.heap[b]?) → OSl e E F w' v (xs.set i x')) := by
  obtain ⟨ess, G, h1, h2, h3, h4, h5, h6⟩ := h
  have hlen := ess_len h1 h4
  have hi' : i < ess.length := by omega
  obtain ⟨A', c', hv, hn, hm, hnil, _, hcase⟩ := own_form h2
  rcases hcase with ⟨_, h0, _⟩ | ⟨g, rfl, _, _, hc⟩
  · omega
  · subst hv
    refine ⟨g, c', ess[i], G i, rfl, h3 g rfl, by rw [nth_eq hi]; exact h4 i ess[i] xs[i] (List.getElem?_eq_getElem hi') (List.getElem?_eq_getElem hi), fun j u hu => ?_, fun b hb => ⟨(h5 i b hb).1, fun e1 => (h5 i b hb).2 (by rw [e1]; rfl)⟩, fun w' x' hx' hk => ?_⟩
    · have := hc (i * e.cod.size + j) u (flatten_slot ess i ess[i] hlen (List.getElem?_eq_getElem hi') j u hu)
      rwa [show i * e.cod.size + j = 0 + (i * e.cod.size + j) by omega]
    · refine ⟨ess, G, by simpa using h1, ?_, h3, fun j es x hj hx => ?_, h5, h6⟩
      · rw [List.length_set]
        exact own_keep h2 fun b hb => hk b (h3 b hb) fun hG => (h5 i b hG).2 hb
      · by_cases e1 : i = j
        · subst e1
          rw [List.getElem?_set_self hi] at hx
          rw [List.getElem?_eq_getElem hi'] at hj
          injection hx with hx; injection hj with hj
          subst hx; subst hj
          exact hx'
        · rw [List.getElem?_set_ne e1] at hx
          exact e.keep (h4 j es x hj hx) fun b hb => hk b (h5 j b hb).1 fun hG => h6 j i b (Ne.symm e1) hb hG

/-- one round of 'out = append(out, x)' over what is owned: from world w0 (what was) by w (the append's) and w' (behind it) to w'' -/
theorem osl_step {T : Type} {e : OCod T} {E : TypeId} {F Fx F' : Nat → Prop} {w0 w w' w'' : World} {v v' : Value} {xs : List T} {x : T} {ess : List (List Value)} {G : Nat → Nat → Prop} {es : List Value}
    (h1 : ess.length = xs.length) (h4 : ∀ i es x, ess[i]? = some es → xs[i]? = some x → e.rel (G i) w0 es x) (h5 : ∀ i b, G i b → F b ∧ v.ownBlock ≠ some b) (h6 : ∀ i j b, i ≠ j → G i b → ¬ G j b)
    (h3 : ∀ b, v.ownBlock = some b → F b) (hg : w.grownBy w' v.ownBlock) (hat : v'.ownBlock = v.ownBlock ∨ v'.ownBlock = some w.heap.size) (hown : w'.ownsRow 0 E e.cod.size v' (xs.length + 1) (ess.flatten ++ es))
    (hx : e.rel Fx w es x) (hk : KeepI F w0 w) (hd : ∀ b, F b → ¬ Fx b) (hlt : ∀ b, F b ∨ Fx b → b < w.heap.size)
    (hF : ∀ b, F b ∨ Fx b → F' b) (hF' : ∀ b, b = w.heap.size → b < w'.heap.size → F' b) (hk2 : KeepI F' w' w'') : OSl e E F' w'' v' (xs ++ [x]) :=
  (osl_app h1 (fun i es x hi hx => e.keep (h4 i es x hi hx) fun b hb => hk b (h5 i b hb).1) h5 h6 hx hd hlt h3 hown hg hat hF (fun b hb => by
    rcases hat with e1 | e1
    · exact hF b (.inl (h3 b (e1.symm.trans hb)))
    · have hl := (own_lt hown b hb).2
      rw [e1] at hb; injection hb with hb; exact hF' b hb.symm hl)).keep hk2
end Go.Proofs.Ytinlmkhlgclbfab
