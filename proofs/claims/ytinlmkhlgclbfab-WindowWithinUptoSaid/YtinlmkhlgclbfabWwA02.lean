/- Mem -/
import Derived.Test.YtinlmkhlgclbfabWwA01
import Derived.Maps.AppendAt
import Derived.Deep.RegionHeld3
import Derived.Deep.DeepCutAuto
import Derived.Lib.AppendZeros
namespace Go.Proofs.Ytinlmkhlgclbfab
open Go.RowKit

/-- what a table says of a slice's type and its element's -/
structure TyS (P : Program) (t e : TypeId) (z : Value) (size bytes : Nat) : Prop where
  ht : P.underlying t = some (.slice e)
  info : ∃ i, P.info? e = some i ∧ i.zero = some z ∧ i.size = size ∧ i.bytes = bytes
  hzs : z.cells.size = size
  hsz : 0 < size

theorem info_of {P : Program} {e : TypeId} {z : Value} {size bytes : Nat} (h : (P.info? e).map (fun i => (i.zero, i.size, i.bytes)) = some (some z, size, bytes)) : ∃ i, P.info? e = some i ∧ i.zero = some z ∧ i.size = size ∧ i.bytes = bytes := by
  cases hi : P.info? e with
  | none => simp [hi] at h
  | some i => rw [hi] at h; simp at h; exact ⟨i, rfl, h⟩

/-- the m elements at A are the cells news -/
def Src (w : World) (A : Option Addr) (m size : Nat) (news : List Value) : Prop :=
  news.length = m * size ∧ (0 < m → ∃ b o, A = some ⟨b, o, none⟩ ∧ CellsAt w b o news)

/-- where an owned row lies -/
theorem own_form {w : World} {base : Nat} {e : TypeId} {size : Nat} {v : Value} {n : Nat} {xs : List Value} (h : w.ownsRow base e size v n xs) :
    ∃ A c, v = .slice A n c ∧ n ≤ c ∧ c ≤ maxLen ∧ (A = none → c = 0) ∧ xs.length = n * size ∧
      ((A = none ∧ n = 0 ∧ c = 0) ∨ ∃ g, A = some ⟨g, 0, none⟩ ∧ base ≤ g ∧ g < w.heap.size ∧ CellsAt w g 0 xs) := by
  rcases h.2 with ⟨rfl, rfl⟩ | ⟨g, cap, cur, rfl, hb, hh, hn, hm, hcs, ht⟩
  · exact ⟨none, 0, rfl, Nat.le_refl _, Nat.zero_le _, fun _ => rfl, h.1, .inl ⟨rfl, rfl, rfl⟩⟩
  · refine ⟨some ⟨g, 0, none⟩, cap, rfl, hn, hm, (fun h => by cases h), h.1, .inr ⟨g, rfl, hb, (Array.getElem?_eq_some_iff.1 hh).1, fun j u hu => ?_⟩⟩
    rw [Nat.zero_add, cell_of_row w g j cur e (0, 0) hh]
    rw [← ht, List.getElem?_take] at hu
    split at hu
    · simpa using hu
    · cases hu

section
variable {P : Program}

theorem run_append_none (w : World) (base : Nat) {t e : TypeId} {z : Value} {size bytes : Nat} (T : TyS P t e z size bytes) (ty : TypeId) (v : Value) (n : Nat) (xs : List Value)
    (hown : w.ownsRow base e size v n xs) (c : Nat) : (Builtin.append_ #[t, t] ty #[v, .slice none 0 c]).run P w = .ok v w := by
  obtain ⟨i, hi, _, _, _⟩ := T.info
  have ht := T.ht
  rcases hown.2 with ⟨rfl, rfl⟩ | ⟨g, cap, cur, rfl, _, _, hnc, _⟩
  · simp [Builtin.append_, run_underlying ht, sizeOf, typeInfo, hi, Builtin.lenOf, Builtin.firstCells]
  · simp [Builtin.append_, run_underlying ht, sizeOf, typeInfo, hi, Builtin.lenOf, Builtin.firstCells, hnc, storeCells]

theorem run_append_src (w : World) (base : Nat) {t e : TypeId} {z : Value} {size bytes : Nat} (T : TyS P t e z size bytes) (ty : TypeId) (v : Value) (n : Nat) (xs : List Value)
    (hown : w.ownsRow base e size v n xs) (A : Option Addr) (m c : Nat) (news : List Value) (hsrc : Src w A m size news) (h1 : ∀ u ∈ news, u.oneCell' = true)
    (h63 : n + m ≤ maxLen) (hbytes : (n + m) * bytes ≤ 140737488355328) (hbase : base ≤ w.heap.size) :
    ∃ v' w', (Builtin.append_ #[t, t] ty #[v, .slice A m c]).run P w = .ok v' w' ∧ w'.ownsRow base e size v' (n + m) (xs ++ news) ∧ w.grownBy w' v.ownBlock ∧
      (v'.ownBlock = v.ownBlock ∨ v'.ownBlock = some w.heap.size) := by
  obtain ⟨i, hi, hz, hs, hb⟩ := T.info
  have none_ : m = 0 → ∀ A', A = A' → A' = none → ∃ v' w', (Builtin.append_ #[t, t] ty #[v, .slice A m c]).run P w = .ok v' w' ∧ w'.ownsRow base e size v' (n + m) (xs ++ news) ∧ w.grownBy w' v.ownBlock ∧
      (v'.ownBlock = v.ownBlock ∨ v'.ownBlock = some w.heap.size) := by
    rintro rfl A' rfl rfl
    have hn : news = [] := List.eq_nil_of_length_eq_zero (by simpa using hsrc.1)
    subst hn
    exact ⟨v, w, run_append_none w base T ty v n xs hown c, by simpa using hown, ⟨rfl, rfl, rfl, Nat.le_refl _, fun _ _ _ => rfl⟩, .inl rfl⟩
  cases A with
  | none =>
    rcases Nat.eq_zero_or_pos m with h0 | h0
    · exact none_ h0 _ rfl rfl
    · obtain ⟨b, o, h, _⟩ := hsrc.2 h0; cases h
  | some ad =>
    have hcells : ∀ j u, news[j]? = some u → w.cell? (ad.add j) = some u := by
      intro j u hu
      rcases Nat.eq_zero_or_pos m with h0 | h0
      · subst h0
        have hn : news = [] := List.eq_nil_of_length_eq_zero (by simpa using hsrc.1)
        subst hn; simp at hu
      · obtain ⟨b, o, h, hc⟩ := hsrc.2 h0
        injection h with h; subst h
        rw [Addr.add_lit]
        exact hc j u hu
    obtain ⟨v', w', hrun, h2, h3, _, h5⟩ := run_append_own_at (P := P) w base t ty e i z size bytes T.ht hi hz hs hb T.hzs T.hsz v n xs hown ad m c news hsrc.1 hcells h1 h63 hbytes hbase
    exact ⟨v', w', hrun, h2, h3, h5⟩

/-- append as an operation -/
theorem wp_app {w : World} {o : Oper} {a : Act} {K : Act → World → Prop} {Q : Exit → Act → World → Prop} (s x : Operand) (t : TypeId)
    (ho : o.op = .call { callee := .builtin .append, args := #[s, x], argTypes := #[t, t] })
    (base : Nat) {e : TypeId} {z : Value} {size bytes : Nat} (T : TyS P t e z size bytes) (v : Value) (n : Nat) (xs : List Value) (hs : a.eval s = v) (hown : w.ownsRow base e size v n xs)
    (A : Option Addr) (m c : Nat) (news : List Value) (hx : a.eval x = .slice A m c) (hsrc : Src w A m size news) (h1 : ∀ u ∈ news, u.oneCell' = true)
    (h63 : n + m ≤ maxLen) (hbytes : (n + m) * bytes ≤ 140737488355328) (hbase : base ≤ w.heap.size)
    (h : ∀ A' c' w', w'.ownsRow base e size (.slice A' (n + m) c') (n + m) (xs ++ news) → w.grownBy w' v.ownBlock → ((Value.slice A' (n + m) c').ownBlock = v.ownBlock ∨ (Value.slice A' (n + m) c').ownBlock = some w.heap.size) → K (a.put o.dst (.slice A' (n + m) c')) w') : o.wp P a w K Q := by
  obtain ⟨v', w', hr, h2, h3, h5⟩ := run_append_src (P := P) w base T o.type v n xs hown A m c news hsrc h1 h63 hbytes hbase
  obtain ⟨A', c', rfl, _⟩ := own_form h2
  unfold Oper.wp execOp
  simp only [ho, resolve, invoke, builtin, Sem.run_bind, Sem.run_pure, Result.andThen_ok, List.map_toArray, List.map_cons, List.map_nil, hs, hx, hr]
  exact h A' c' w' h2 h3 h5

theorem wpList_app {w : World} {ops : Array Oper} {rest : List Oper} {o : Oper} {a : Act} {Q : Exit → Act → World → Prop} (hgd : o.guard = none) (s x : Operand) (t : TypeId)
    (ho : o.op = .call { callee := .builtin .append, args := #[s, x], argTypes := #[t, t] })
    (base : Nat) {e : TypeId} {z : Value} {size bytes : Nat} (T : TyS P t e z size bytes) (v : Value) (n : Nat) (xs : List Value) (hs : a.eval s = v) (hown : w.ownsRow base e size v n xs)
    (A : Option Addr) (m c : Nat) (news : List Value) (hx : a.eval x = .slice A m c) (hsrc : Src w A m size news) (h1 : ∀ u ∈ news, u.oneCell' = true)
    (h63 : n + m ≤ maxLen) (hbytes : (n + m) * bytes ≤ 140737488355328) (hbase : base ≤ w.heap.size)
    (h : ∀ A' c' w', w'.ownsRow base e size (.slice A' (n + m) c') (n + m) (xs ++ news) → w.grownBy w' v.ownBlock → ((Value.slice A' (n + m) c').ownBlock = v.ownBlock ∨ (Value.slice A' (n + m) c').ownBlock = some w.heap.size) → wpList P ops Q rest (a.put o.dst (.slice A' (n + m) c')) w') :
    wpList P ops Q (o :: rest) a w :=
  wpList_plain hgd fun _ hK => wp_app s x t ho base T v n xs hs hown A m c news hx hsrc h1 h63 hbytes hbase fun A' c' w' h2 h3 h4 => hK _ _ (h A' c' w' h2 h3 h4)

theorem step_app {w : World} {ops : Array Oper} {o : Oper} {a : Act} {K : Act → World → Prop} {Q : Exit → Act → World → Prop} {E : Prop} (hgd : o.guard = none) (s x : Operand) (t : TypeId)
    (ho : o.op = .call { callee := .builtin .append, args := #[s, x], argTypes := #[t, t] })
    (base : Nat) {e : TypeId} {z : Value} {size bytes : Nat} (T : TyS P t e z size bytes) (v : Value) (n : Nat) (xs : List Value) (hs : a.eval s = v) (hown : w.ownsRow base e size v n xs)
    (A : Option Addr) (m c : Nat) (news : List Value) (hx : a.eval x = .slice A m c) (hsrc : Src w A m size news) (h1 : ∀ u ∈ news, u.oneCell' = true)
    (h63 : n + m ≤ maxLen) (hbytes : (n + m) * bytes ≤ 140737488355328) (hbase : base ≤ w.heap.size)
    (h : ∀ A' c' w', w'.ownsRow base e size (.slice A' (n + m) c') (n + m) (xs ++ news) → w.grownBy w' v.ownBlock → ((Value.slice A' (n + m) c').ownBlock = v.ownBlock ∨ (Value.slice A' (n + m) c').ownBlock = some w.heap.size) → K (a.put o.dst (.slice A' (n + m) c')) w') :
    if Region.wanted o (yielded ops a.tmps) = true then Oper.wp P o a w K Q else E := by
  have hw : Region.wanted o (yielded ops a.tmps) = true := by simp [Region.wanted, hgd]
  rw [if_pos hw]
  exact wp_app s x t ho base T v n xs hs hown A m c news hx hsrc h1 h63 hbytes hbase h
end

/-- a slice that reads as a list of flat things is a source -/
theorem Sl.src {T : Type} {k : Nat} {f : T → List Value} {hf : ∀ x, (f x).length = k} {I : Nat → Prop} {w : World} {A : Option Addr} {c : Nat} {xs : List T} (h : Sl (Cod.flat k f hf) I w A c xs) :
    Src w A xs.length k (xs.flatMap f) := by
  have hl : ∀ l : List T, (l.flatMap f).length = l.length * k := by
    intro l
    induction l with
    | nil => simp
    | cons x l ih => simp only [List.flatMap_cons, List.length_append, List.length_cons, ih, hf]; rw [Nat.add_mul]; omega
  refine ⟨hl xs, fun hpos => ?_⟩
  obtain ⟨b, o, es, hA, _, _, _⟩ := h.elem 0 hpos
  refine ⟨b, o, hA, fun j u hu => ?_⟩
  have hk : 0 < k := by
    rcases Nat.eq_zero_or_pos k with h0 | h0
    · subst h0
      have := (List.getElem?_eq_some_iff.1 hu).1
      rw [hl] at this; simp at this
    · exact h0
  have hj : j < xs.length * k := by have := (List.getElem?_eq_some_iff.1 hu).1; rw [hl] at this; exact this
  have hq : j / k < xs.length := Nat.div_lt_of_lt_mul (by rw [Nat.mul_comm]; exact hj)
  obtain ⟨b', o', es', hA', _, he', hc'⟩ := h.elem (j / k) hq
  rw [hA] at hA'
  injection hA' with hA'; injection hA' with e1 e2
  subst e1; subst e2
  have hget : (xs.flatMap f)[j]? = (f xs[j / k])[j % k]? := by
    have key : ∀ (l : List T) (q r : Nat) (hq : q < l.length), r < k → (l.flatMap f)[q * k + r]? = (f l[q])[r]? := by
      intro l
      induction l with
      | nil => intro q r hq; simp at hq
      | cons x l ih =>
        intro q r hq hr
        cases q with
        | zero => simp only [List.flatMap_cons, Nat.zero_mul, Nat.zero_add, List.getElem_cons_zero]; rw [List.getElem?_append_left (by rw [hf]; exact hr)]
        | succ q =>
          simp only [List.flatMap_cons, List.getElem_cons_succ]
          rw [List.getElem?_append_right (by rw [hf, Nat.add_mul]; omega), hf]
          rw [show (q + 1) * k + r - k = q * k + r by rw [Nat.add_mul]; omega]
          exact ih q r (by simpa using hq) hr
    have := key xs (j / k) (j % k) hq (Nat.mod_lt _ hk)
    rw [Nat.mul_comm (j / k) k, Nat.div_add_mod] at this
    exact this
  have e1 : es' = f xs[j / k] := he'
  rw [hget, ← e1] at hu
  have := hc' (j % k) u hu
  have e2 : o + j / k * (Cod.flat k f hf).size + j % k = o + j := by
    show o + j / k * k + j % k = o + j
    have := Nat.div_add_mod j k
    rw [Nat.mul_comm] at this; omega
  rw [e2] at this
  exact this

/-- the cells of a list of flat things -/
theorem Src.of_new {w : World} {g : Nat} {t : TypeId} {cs : List Value} {fr : Nat × Nat} {m size : Nat} (h : w.heap[g]? = some (.cells cs.toArray t fr)) (hl : cs.length = m * size) : Src w (some ⟨g, 0, none⟩) m size cs :=
  ⟨hl, fun _ => ⟨g, 0, rfl, fun j u hu => by
    have := cell_of_row w g (0 + j) cs.toArray t fr h
    rw [this]; simpa using hu⟩⟩

theorem grown_of_alloc {w w' : World} {o : Obj} {row : Option Nat} (h : (w.alloc o).grownBy w' row) : w.grownBy w' row :=
  ⟨h.os, h.tape, h.output, Nat.le_trans (by simp) h.size, fun k hk hn => (h.block k (by simp; omega) hn).trans (heap_alloc_old w o hk)⟩

/-- append of what was just laid into a block of its own: 'out = append(out, x)' -/
theorem wpList_app1 {P : Program} {w : World} {ops : Array Oper} {rest : List Oper} {o : Oper} {a : Act} {Q : Exit → Act → World → Prop} {cs : List Value} (hgd : o.guard = none) (s x : Operand) (t : TypeId)
    (ho : o.op = .call { callee := .builtin .append, args := #[s, x], argTypes := #[t, t] })
    (base : Nat) {e : TypeId} {z : Value} {size bytes : Nat} (T : TyS P t e z size bytes) (v : Value) (n : Nat) (xs : List Value) (hs : a.eval s = v) (hown : w.ownsRow base e size v n xs)
    (m c : Nat) (hx : a.eval x = .slice (some ⟨w.heap.size, 0, none⟩) m c) (hcs : cs.length = m * size) (h1 : ∀ u ∈ cs, u.oneCell' = true)
    (h63 : n + m ≤ maxLen) (hbytes : (n + m) * bytes ≤ 140737488355328) (hbase : base ≤ w.heap.size)
    (h : ∀ A' c' w', w'.ownsRow base e size (.slice A' (n + m) c') (n + m) (xs ++ cs) → w.grownBy w' v.ownBlock → ((Value.slice A' (n + m) c').ownBlock = v.ownBlock ∨ (Value.slice A' (n + m) c').ownBlock = some (w.heap.size + 1)) → wpList P ops Q rest (a.put o.dst (.slice A' (n + m) c')) w') :
    wpList P ops Q (o :: rest) a (w.alloc (.cells cs.toArray e)) :=
  wpList_app hgd s x t ho base T v n xs hs (hown.alloc _) _ m c cs hx (Src.of_new (heap_alloc_new w _) hcs) h1 h63 hbytes (by simp; omega) fun A' c' w' h2 h3 h4 => h A' c' w' h2 (grown_of_alloc h3) (by simpa using h4)

/-- an owned row of flat things reads as the list -/
theorem sl_of_own {T : Type} {k : Nat} {f : T → List Value} {hf : ∀ x, (f x).length = k} {w : World} {base : Nat} {e : TypeId} {v : Value} {xs : List T} (h : w.ownsRow base e k v xs.length (xs.flatMap f)) :
    ∃ A c, v = .slice A xs.length c ∧ Sl (Cod.flat k f hf) (fun b => base ≤ b ∧ b < w.heap.size) w A c xs := by
  obtain ⟨A, c, rfl, hn, hm, hnil, hl, hcase⟩ := own_form h
  refine ⟨A, c, rfl, hn, hm, hnil, fun i hi => ?_⟩
  rcases hcase with ⟨_, h0, _⟩ | ⟨g, rfl, hb, hlt, hc⟩
  · omega
  · refine ⟨g, 0, f xs[i], rfl, ⟨hb, hlt⟩, rfl, fun j u hu => ?_⟩
    have hj : j < k := by have := (List.getElem?_eq_some_iff.1 hu).1; rw [hf] at this; exact this
    have key : ∀ (l : List T) (q r : Nat) (hq : q < l.length), r < k → (l.flatMap f)[q * k + r]? = (f l[q])[r]? := by
      intro l
      induction l with
      | nil => intro q r hq; simp at hq
      | cons x l ih =>
        intro q r hq hr
        cases q with
        | zero => simp only [List.flatMap_cons, Nat.zero_mul, Nat.zero_add, List.getElem_cons_zero]; rw [List.getElem?_append_left (by rw [hf]; exact hr)]
        | succ q =>
          simp only [List.flatMap_cons, List.getElem_cons_succ]
          rw [List.getElem?_append_right (by rw [hf, Nat.add_mul]; omega), hf]
          rw [show (q + 1) * k + r - k = q * k + r by rw [Nat.add_mul]; omega]
          exact ih q r (by simpa using hq) hr
    have h2 := hc (i * k + j) u (by rw [key xs i j hi hj]; exact hu)
    rw [show 0 + i * (Cod.flat k f hf).size + j = 0 + (i * k + j) by show 0 + i * k + j = _; omega]
    exact h2

/-- a slice of slices out of its owned outer row, and what is known of each inner slice -/
theorem sl_of_own_slices {T : Type} {el : Cod T} {I : Nat → Prop} {w : World} {base : Nat} {e : TypeId} {v : Value} {xs : List (List T)} {vs : List Value} (hl : vs.length = xs.length) (h : w.ownsRow base e 1 v xs.length vs)
    (hI : ∀ b, base ≤ b → b < w.heap.size → I b) (hs : ∀ i (h : i < xs.length), ∃ A c, vs[i]? = some (.slice A (xs[i]).length c) ∧ Sl el I w A c xs[i]) :
    ∃ A c, v = .slice A xs.length c ∧ Sl el.slice I w A c xs := by
  obtain ⟨A, c, rfl, hn, hm, hnil, _, hcase⟩ := own_form h
  refine ⟨A, c, rfl, hn, hm, hnil, fun i hi => ?_⟩
  rcases hcase with ⟨_, h0, _⟩ | ⟨g, rfl, hb, hlt, hc⟩
  · omega
  · obtain ⟨A', c', hv, hsl⟩ := hs i hi
    refine ⟨g, 0, [.slice A' (xs[i]).length c'], rfl, hI g hb hlt, ⟨A', c', rfl, hsl⟩, fun j u hu => ?_⟩
    have hj : j = 0 := by have := (List.getElem?_eq_some_iff.1 hu).1; simpa using this
    subst hj
    simp at hu
    subst hu
    have h2 := hc i _ hv
    rw [show 0 + i * (Cod.slice el).size + 0 = 0 + i by show 0 + i * 1 + 0 = _; omega]
    exact h2

theorem Sl.take {T : Type} {e : Cod T} {I : Nat → Prop} {w : World} {A : Option Addr} {c : Nat} {xs : List T} (h : Sl e I w A c xs) (n : Nat) : Sl e I w A c (xs.take n) :=
  ⟨Nat.le_trans (List.length_take_le' n xs) h.cap, h.max, h.nil, fun i hi => by
    have hi' : i < xs.length := Nat.lt_of_lt_of_le hi (List.length_take_le' n xs)
    obtain ⟨b, o, es, hA, hI, hr, hc⟩ := h.elem i hi'
    exact ⟨b, o, es, hA, hI, by rw [List.getElem_take]; exact hr, hc⟩⟩

/-- two slices laid side by side in a block: a slice of two slices -/
theorem sl_two {T : Type} {e : Cod T} {I : Nat → Prop} {w : World} {g : Nat} {t : TypeId} {A A' : Option Addr} {c c' n n' : Nat} {xs ys : List T} (hb : w.heap[g]? = some (.cells #[.slice A n c, .slice A' n' c'] t)) (hI : I g)
    (hn : n = xs.length) (hn' : n' = ys.length) (h : Sl e I w A c xs) (h' : Sl e I w A' c' ys) : Sl e.slice I w (some ⟨g, 0, none⟩) 2 [xs, ys] := by
  subst hn; subst hn'
  refine ⟨by simp, by unfold maxLen; omega, fun h => (by cases h), fun i hi => ?_⟩
  have hcell := fun j => cell_of_row w g j _ t (0, 0) hb
  match i, hi with
  | 0, _ => exact ⟨g, 0, _, rfl, hI, ⟨A, c, rfl, h⟩, fun j u hu => by
      have hj : j = 0 := by have := (List.getElem?_eq_some_iff.1 hu).1; simpa using this
      subst hj; rw [show 0 + 0 * (Cod.slice e).size + 0 = 0 by omega, hcell 0]; simpa using hu⟩
  | 1, _ => exact ⟨g, 0, _, rfl, hI, ⟨A', c', rfl, h'⟩, fun j u hu => by
      have hj : j = 0 := by have := (List.getElem?_eq_some_iff.1 hu).1; simpa using this
      subst hj; rw [show 0 + 1 * (Cod.slice e).size + 0 = 1 by show 0 + 1 * 1 + 0 = 1; omega, hcell 1]; simpa using hu⟩

theorem own_mono {w : World} {base base' : Nat} {e : TypeId} {size : Nat} {v : Value} {n : Nat} {xs : List Value} (h : w.ownsRow base e size v n xs) (hb : base' ≤ base) : w.ownsRow base' e size v n xs := by
  refine ⟨h.1, ?_⟩
  rcases h.2 with h0 | ⟨g, cap, cur, hv, hg, r⟩
  · exact .inl h0
  · exact .inr ⟨g, cap, cur, hv, Nat.le_trans hb hg, r⟩

theorem own_drew {w : World} {base : Nat} {e : TypeId} {size : Nat} {v : Value} {n : Nat} {xs : List Value} (h : w.ownsRow base e size v n xs) : w.drew.ownsRow base e size v n xs := h
theorem own_drewN {w : World} {base : Nat} {e : TypeId} {size : Nat} {v : Value} {n : Nat} {xs : List Value} (h : w.ownsRow base e size v n xs) (k : Nat) : (w.drewN k).ownsRow base e size v n xs := h

/-- a row of no element that was just laid -/
theorem own_empty {w : World} {e : TypeId} {size g : Nat} (h : g = w.heap.size) : (w.alloc (.cells #[] e)).ownsRow g e size (.slice (some ⟨g, 0, none⟩) 0 0) 0 [] := by
  subst h; exact World.ownsRow_made w #[] 0 (Nat.le_refl _) (by unfold maxLen; omega) (by simp)

theorem own_set_ne {w : World} {base : Nat} {e : TypeId} {size : Nat} {v : Value} {n : Nat} {xs : List Value} (h : w.ownsRow base e size v n xs) {p : Addr} (hne : v.ownBlock ≠ some p.block) (u : Value) : (w.setCell p u).ownsRow base e size v n xs := by
  refine ⟨h.1, ?_⟩
  rcases h.2 with h0 | ⟨g, cap, cur, rfl, hg, hh, r⟩
  · exact .inl h0
  · refine .inr ⟨g, cap, cur, rfl, hg, ?_, r⟩
    rw [Below.heap_setCell _ _ _ _ (fun e => hne (by rw [← e]; rfl))]
    exact hh

theorem one_one {v : Value} (h : v.oneCell' = true) : ∀ u ∈ [v], u.oneCell' = true := fun u hu => by rw [List.mem_singleton.1 hu]; exact h
/-- one element that was just laid into a block of its own is a source -/
theorem src_new {w : World} {g : Nat} {t : TypeId} {cs : List Value} {m size : Nat} (h : g = w.heap.size) (hl : cs.length = m * size) : Src (w.alloc (.cells cs.toArray t)) (some ⟨g, 0, none⟩) m size cs := Src.of_new (heapAt w _ g h) hl
theorem src_new_drew {w : World} {g : Nat} {t : TypeId} {cs : List Value} {m size : Nat} (h : g = w.heap.size) (hl : cs.length = m * size) : Src (w.alloc (.cells cs.toArray t)).drew (some ⟨g, 0, none⟩) m size cs := Src.of_new (heapAt w _ g h) hl

theorem grown_below {B : Nat} {a w w' : World} {v : Value} (h : Below B a w) (hB : B ≤ w.heap.size) {e : TypeId} {size n : Nat} {xs : List Value} (hown : w.ownsRow B e size v n xs) (hg : w.grownBy w' v.ownBlock) : Below B a w' :=
  h.grown hg hB fun k hk => (hown.lt k hk).1

theorem flat_int (xs : List Int) : xs.flatMap (fun n => [Value.int .i64 n]) = xs.map (.int .i64) := by
  induction xs with
  | nil => rfl
  | cons x l ih => simp [ih]
theorem one_int : ∀ (xs : List Int), ∀ u ∈ xs.flatMap (fun n => [Value.int .i64 n]), u.oneCell' = true := by
  intro xs u hu
  simp only [List.mem_flatMap, List.mem_singleton] at hu
  obtain ⟨n, _, rfl⟩ := hu
  rfl
theorem byR {p : Prop} (h : p := by first | exact src_new (by simp) rfl | exact src_new_drew (by simp) rfl) : p := h
end Go.Proofs.Ytinlmkhlgclbfab
