/- OwnY -/
import Derived.Test.YtinlmkhlgclbfabTsA14
namespace Go.Proofs.Ytinlmkhlgclbfab
open Go.RowKit

section
variable {P : Program}
theorem run_append_Z (w : World) {t e : TypeId} {z : Value} {size bytes : Nat} (T : TyS P t e z size bytes) (ty : TypeId) (v : Value) (n : Nat) (xs : List Value)
    (hown : ownsZ w e size v n xs) (A : Option Addr) (m c : Nat) (news : List Value) (hsrc : Src w A m size news) (h1 : ∀ u ∈ news, u.oneCell' = true)
    (h63 : n + m ≤ maxLen) (hbytes : (n + m) * bytes ≤ 140737488355328) :
    ∃ A' c' w', (Builtin.append_ #[t, t] ty #[v, .slice A m c]).run P w = .ok (.slice A' (n + m) c') w' ∧ ownsZ w' e size (.slice A' (n + m) c') (n + m) (xs ++ news) ∧ w.grownBy w' (rowZ v) ∧
      (∀ b, rowZ (.slice A' (n + m) c') = some b → rowZ v = some b ∨ b = w.heap.size) := by
  obtain ⟨A0, c0, rfl, q1, q2, q3, q4, q5⟩ := ownZ_form hown
  rcases q5 with ⟨rfl, rfl, q6⟩ | ⟨g, rfl, q6, q7, q8, _, q9⟩
  · have hx : xs = [] := List.eq_nil_of_length_eq_zero (by simpa using q4)
    subst hx
    rw [q6]
    cases A0 with
    | none =>
      obtain ⟨v', w', hr, h2, h3, h5⟩ := run_append_src (P := P) w 0 T ty (.slice none 0 0) 0 [] ⟨by simp, .inl ⟨rfl, rfl⟩⟩ A m c news hsrc h1 h63 hbytes (Nat.zero_le _)
      obtain ⟨A', c', rfl, hn, _, hnil, _, hcase⟩ := own_form h2
      refine ⟨A', c', w', hr, .inl h2, h3, fun bb hbb => ?_⟩
      rcases Nat.eq_zero_or_pos c' with h0 | h0
      · subst h0; rw [rowZ_zero] at hbb; cases hbb
      · rcases hcase with ⟨_, _, h6⟩ | ⟨g, rfl, _, _, _⟩
        · omega
        · rw [rowZ_pos h0] at hbb
          rcases h5 with h5 | h5
          · cases h5
          · right
            injection hbb with hbb; injection h5 with h5; omega
    | some a =>
      rcases Nat.eq_zero_or_pos m with h0 | h0
      · subst h0
        have hn : news = [] := List.eq_nil_of_length_eq_zero (by simpa using hsrc.1)
        subst hn
        obtain ⟨i, hi, _, _, _⟩ := T.info
        have ht := T.ht
        refine ⟨some a, 0, w, ?_, .inr ⟨rfl, rfl, a, rfl⟩, ⟨rfl, rfl, rfl, Nat.le_refl _, fun _ _ _ => rfl⟩, fun bb hbb => by rw [rowZ_zero] at hbb; cases hbb⟩
        cases A with
        | none => simp [Builtin.append_, run_underlying ht, sizeOf, typeInfo, hi, Builtin.lenOf, Builtin.firstCells, storeCells]
        | some ad => simp [Builtin.append_, run_underlying ht, sizeOf, typeInfo, hi, Builtin.lenOf, Builtin.firstCells, storeCells, loadCells, loadCellsFrom]
      · obtain ⟨b, o, rfl, hcs⟩ := hsrc.2 h0
        obtain ⟨i, hi, hz, hs, hb⟩ := T.info
        have hs' := hs; have hb' := hb
        subst hs; subst hb
        have hsmall : 0 + m ≤ 9223372036854775807 := by simp only [maxLen] at h63; omega
        have hr := run_append_grow (P := P) w t ty e i z T.ht hi hz a 0 0 [] (by simp) (fun j u hu => by simp at hu) ⟨b, o, none⟩ m c news hsrc.1 (fun j u hu => by rw [Addr.add_lit]; exact hcs j u hu) (by omega) (by omega) (growslice_fits (by omega) hbytes)
        have hge := grownCap_ge w (0 + m) 0 e
        have hcm : grownCap w (0 + m) 0 e ≤ maxLen := grownCap_le_maxLen w (0 + m) 0 e h63
        refine ⟨_, _, _, hr, .inl ⟨by simpa using hsrc.1, .inr ⟨w.heap.size, _, _, rfl, Nat.zero_le _, heap_alloc_new w.drew _, hge, hcm, ?_, ?_⟩⟩, ⟨rfl, rfl, rfl, by simp, fun k hk _ => heap_alloc_old w.drew _ hk⟩, fun bb hbb => ?_⟩
        · have hl := hsrc.1
          simp only [Array.size_append, List.size_toArray, size_zeroCells, T.hzs, hl, List.length_nil, Nat.zero_add] at hge ⊢
          rw [← Nat.add_mul]
          congr 1
          omega
        · simp only [Array.toList_append, List.append_assoc, List.nil_append, Nat.zero_add]
          rw [← hsrc.1]
          simp
        · rw [rowZ_pos (by omega)] at hbb
          injection hbb with hbb; right; exact hbb.symm
  · obtain ⟨v', w', hr, h2, h3, h5⟩ := run_append_src (P := P) w 0 T ty _ n xs q9 A m c news hsrc h1 h63 hbytes (Nat.zero_le _)
    obtain ⟨A', c', rfl, hn, _, hnil, _, hcase⟩ := own_form h2
    have hrow : (Value.slice (some ⟨g, 0, none⟩) n c0).ownBlock = rowZ (Value.slice (some ⟨g, 0, none⟩) n c0) := by rw [q7]; rfl
    refine ⟨A', c', w', hr, .inl h2, by rw [← hrow]; exact h3, fun bb hbb => ?_⟩
    have hbo := rowZ_own hbb
    rw [← hrow]
    rcases h5 with h5 | h5
    · left; rw [← h5]; exact hbo
    · right; rw [h5] at hbo; injection hbo with hbo; exact hbo.symm

/-- append as an operation -/
theorem wp_appZ {w : World} {o : Oper} {a : Act} {K : Act → World → Prop} {Q : Exit → Act → World → Prop} (s x : Operand) (t : TypeId)
    (ho : o.op = .call { callee := .builtin .append, args := #[s, x], argTypes := #[t, t] })
    {e : TypeId} {z : Value} {size bytes : Nat} (T : TyS P t e z size bytes) (v : Value) (n : Nat) (xs : List Value) (hs : a.eval s = v) (hown : ownsZ w e size v n xs)
    (A : Option Addr) (m c : Nat) (news : List Value) (hx : a.eval x = .slice A m c) (hsrc : Src w A m size news) (h1 : ∀ u ∈ news, u.oneCell' = true)
    (h63 : n + m ≤ maxLen) (hbytes : (n + m) * bytes ≤ 140737488355328)
    (h : ∀ A' c' w', ownsZ w' e size (.slice A' (n + m) c') (n + m) (xs ++ news) → w.grownBy w' (rowZ v) → (∀ b, rowZ (.slice A' (n + m) c') = some b → rowZ v = some b ∨ b = w.heap.size) → K (a.put o.dst (.slice A' (n + m) c')) w') : o.wp P a w K Q := by
  obtain ⟨A', c', w', hr, h2, h3, h5⟩ := run_append_Z (P := P) w T o.type v n xs hown A m c news hsrc h1 h63 hbytes
  unfold Oper.wp execOp
  simp only [ho, resolve, invoke, builtin, Sem.run_bind, Sem.run_pure, Result.andThen_ok, List.map_toArray, List.map_cons, List.map_nil, hs, hx, hr]
  exact h A' c' w' h2 h3 h5
theorem wpList_appZ {w : World} {ops : Array Oper} {rest : List Oper} {o : Oper} {a : Act} {Q : Exit → Act → World → Prop} (hgd : o.guard = none) (s x : Operand) (t : TypeId)
    (ho : o.op = .call { callee := .builtin .append, args := #[s, x], argTypes := #[t, t] })
    {e : TypeId} {z : Value} {size bytes : Nat} (T : TyS P t e z size bytes) (v : Value) (n : Nat) (xs : List Value) (hs : a.eval s = v) (hown : ownsZ w e size v n xs)
    (A : Option Addr) (m c : Nat) (news : List Value) (hx : a.eval x = .slice A m c) (hsrc : Src w A m size news) (h1 : ∀ u ∈ news, u.oneCell' = true)
    (h63 : n + m ≤ maxLen) (hbytes : (n + m) * bytes ≤ 140737488355328)
    (h : ∀ A' c' w', ownsZ w' e size (.slice A' (n + m) c') (n + m) (xs ++ news) → w.grownBy w' (rowZ v) → (∀ b, rowZ (.slice A' (n + m) c') = some b → rowZ v = some b ∨ b = w.heap.size) → wpList P ops Q rest (a.put o.dst (.slice A' (n + m) c')) w') :
    wpList P ops Q (o :: rest) a w :=
  wpList_plain hgd fun _ hK => wp_appZ s x t ho T v n xs hs hown A m c news hx hsrc h1 h63 hbytes fun A' c' w' h2 h3 h4 => hK _ _ (h A' c' w' h2 h3 h4)
theorem step_appZ {w : World} {ops : Array Oper} {o : Oper} {a : Act} {K : Act → World → Prop} {Q : Exit → Act → World → Prop} {E : Prop} (hgd : o.guard = none) (s x : Operand) (t : TypeId)
    (ho : o.op = .call { callee := .builtin .append, args := #[s, x], argTypes := #[t, t] })
    {e : TypeId} {z : Value} {size bytes : Nat} (T : TyS P t e z size bytes) (v : Value) (n : Nat) (xs : List Value) (hs : a.eval s = v) (hown : ownsZ w e size v n xs)
    (A : Option Addr) (m c : Nat) (news : List Value) (hx : a.eval x = .slice A m c) (hsrc : Src w A m size news) (h1 : ∀ u ∈ news, u.oneCell' = true)
    (h63 : n + m ≤ maxLen) (hbytes : (n + m) * bytes ≤ 140737488355328)
    (h : ∀ A' c' w', ownsZ w' e size (.slice A' (n + m) c') (n + m) (xs ++ news) → w.grownBy w' (rowZ v) → (∀ b, rowZ (.slice A' (n + m) c') = some b → rowZ v = some b ∨ b = w.heap.size) → K (a.put o.dst (.slice A' (n + m) c')) w') :
    if Region.wanted o (yielded ops a.tmps) = true then Oper.wp P o a w K Q else E := by
  have hw : Region.wanted o (yielded ops a.tmps) = true := by simp [Region.wanted, hgd]
  rw [if_pos hw]
  exact wp_appZ s x t ho T v n xs hs hown A m c news hx hsrc h1 h63 hbytes h
end
end Go.Proofs.Ytinlmkhlgclbfab
