/- CacheP -/
import Derived.Test.YtinlmkhlgclbfabWwA03
namespace Go.Proofs.Ytinlmkhlgclbfab
open Go.RowKit

/-- A1: what is wrong with way k of set number 'set', of n sets -/
def wayErr (n set : Nat) (ws : List TWay) (k : Nat) : Int :=
  if inB 0 (nth ws k).line 1000 = false then 3
  else if (nth ws k).line = 0 then (if (nth ws k).dirty then 1 else 0)
  else if (nth ws k).line % (n : Int) ≠ set then 4
  else if anyI k (fun j => (nth ws j).line == (nth ws k).line) then 6
  else if anyI k (fun j => (nth ws j).line == 0) then 4 else 0
def setErr (n set : Nat) (ws : List TWay) : Int := firstE ws.length (wayErr n set ws)
def checkCache (c : List (List TWay)) : Int :=
  if inB 1 c.length 4 = false then 3
  else if anyI c.length (fun i => !inB 1 (nth c i).length 3) then 3
  else if anyI c.length (fun i => (nth c i).length != (nth c 0).length) then 1
  else firstE c.length (fun i => setErr c.length i (nth c i))

def WayOk (n set : Nat) (x : TWay) : Prop := 0 ≤ x.line ∧ x.line ≤ 1000 ∧ (x.line = 0 → x.dirty = false) ∧ (x.line ≠ 0 → x.line % (n : Int) = set)
def WayR (a b : TWay) : Prop := b.line ≠ 0 → a.line ≠ b.line ∧ a.line ≠ 0
structure SetOk (n set : Nat) (ws : List TWay) : Prop where
  way : ∀ x ∈ ws, WayOk n set x
  pw : ws.Pairwise WayR
structure CacheOk (c : List (List TWay)) : Prop where
  h1 : 1 ≤ c.length
  h4 : c.length ≤ 4
  w1 : 1 ≤ (nth c 0).length
  w3 : (nth c 0).length ≤ 3
  same : ∀ i, i < c.length → (nth c i).length = (nth c 0).length
  set : ∀ i, i < c.length → SetOk c.length i (nth c i)

theorem wayErr_zero {n set : Nat} {ws : List TWay} {k : Nat} : wayErr n set ws k = 0 ↔ WayOk n set (nth ws k) ∧ ∀ j, j < k → WayR (nth ws j) (nth ws k) := by
  unfold wayErr WayOk WayR
  by_cases h1 : inB 0 (nth ws k).line 1000 = false
  · rw [if_pos h1]
    have := inB_false.1 h1
    constructor
    · intro h; omega
    · intro h; omega
  · rw [if_neg h1]
    have h1' := inB_true.1 (by simpa using h1)
    by_cases h2 : (nth ws k).line = 0
    · rw [if_pos h2]
      cases h3 : (nth ws k).dirty <;> simp [h2]
    · rw [if_neg h2]
      by_cases h3 : (nth ws k).line % (n : Int) ≠ set
      · rw [if_pos h3]
        constructor
        · intro h; omega
        · intro h; exact absurd (h.1.2.2.2 h2) h3
      · rw [if_neg h3]
        by_cases h4 : anyI k (fun j => (nth ws j).line == (nth ws k).line) = true
        · rw [if_pos h4]
          obtain ⟨j, hj, e⟩ := anyI_true.1 h4
          constructor
          · intro h; omega
          · intro h; exact absurd (by simpa using e) (h.2 j hj h2).1
        · rw [if_neg h4]
          have h4' := anyI_false.1 (by simpa using h4)
          by_cases h5 : anyI k (fun j => (nth ws j).line == 0) = true
          · rw [if_pos h5]
            obtain ⟨j, hj, e⟩ := anyI_true.1 h5
            constructor
            · intro h; omega
            · intro h; exact absurd (by simpa using e) (h.2 j hj h2).2
          · rw [if_neg h5]
            have h5' := anyI_false.1 (by simpa using h5)
            simp only [true_iff]
            refine ⟨⟨h1'.1, h1'.2, fun h => absurd h h2, fun _ => by simpa using h3⟩, fun j hj _ => ⟨?_, ?_⟩⟩
            · simpa using h4' j hj
            · simpa using h5' j hj

theorem setErr_zero {n set : Nat} {ws : List TWay} : setErr n set ws = 0 ↔ SetOk n set ws := by
  unfold setErr
  rw [firstE_zero_iff]
  constructor
  · intro h
    refine ⟨fun x hx => ?_, List.pairwise_iff_getElem.2 fun i j hi hj hij => ?_⟩
    · obtain ⟨i, hi, rfl⟩ := List.getElem_of_mem hx
      have := (wayErr_zero.1 (h i hi)).1
      rwa [nth_eq hi] at this
    · have := (wayErr_zero.1 (h j hj)).2 i hij
      rwa [nth_eq hi, nth_eq hj] at this
  · intro h k hk
    refine wayErr_zero.2 ⟨h.way _ (nth_mem hk), fun j hj => ?_⟩
    have := List.pairwise_iff_getElem.1 h.pw j k (by omega) hk hj
    rwa [nth_eq hk, nth_eq (show j < ws.length by omega)]

theorem checkCache_ok {c : List (List TWay)} : checkCache c = 0 ↔ CacheOk c := by
  unfold checkCache
  by_cases h1 : inB 1 c.length 4 = false
  · rw [if_pos h1]
    have := inB_false.1 h1
    exact ⟨fun h => by omega, fun h => by have := h.h1; have := h.h4; omega⟩
  · rw [if_neg h1]
    have h1' := inB_true.1 (by simpa using h1)
    by_cases h2 : anyI c.length (fun i => !inB 1 (nth c i).length 3) = true
    · rw [if_pos h2]
      obtain ⟨i, hi, e⟩ := anyI_true.1 h2
      have e' := inB_false.1 (by simpa using e)
      exact ⟨fun h => by omega, fun h => by have := h.same i hi; have := h.w1; have := h.w3; omega⟩
    · rw [if_neg h2]
      have h2' := anyI_false.1 (by simpa using h2)
      by_cases h3 : anyI c.length (fun i => (nth c i).length != (nth c 0).length) = true
      · rw [if_pos h3]
        obtain ⟨i, hi, e⟩ := anyI_true.1 h3
        exact ⟨fun h => by omega, fun h => absurd (h.same i hi) (by simpa using e)⟩
      · rw [if_neg h3]
        have h3' := anyI_false.1 (by simpa using h3)
        rw [firstE_zero_iff]
        have h0 : 0 < c.length := by omega
        have h20 := inB_true.1 (show inB 1 (nth c 0).length 3 = true by simpa using h2' 0 h0)
        constructor
        · intro h
          exact ⟨by omega, by omega, by omega, by omega, fun i hi => by simpa using h3' i hi, fun i hi => setErr_zero.1 (h i hi)⟩
        · intro h i hi
          exact setErr_zero.2 (h.set i hi)

/-- where a line stands in a set; -1: nowhere -/
def lineAt (ws : List TWay) (line : Int) : Int := findI ws.length (fun j => (nth ws j).line == line)
def hasLine (ws : List TWay) (line : Int) : Bool := ws.any fun x => x.line == line
/-- A2: which way goes -/
def touchK (ws : List TWay) (line : Int) : Nat := if 0 ≤ lineAt ws line then (lineAt ws line).toNat else ws.length - 1
def touchW (ws : List TWay) (line : Int) (write : Bool) : TWay := if 0 ≤ lineAt ws line then ⟨line, (nth ws (touchK ws line)).dirty || write⟩ else ⟨line, write⟩
def touchSet (ws : List TWay) (line : Int) (write : Bool) : List TWay := touchW ws line write :: ws.eraseIdx (touchK ws line)
def touchCost (ws : List TWay) (line : Int) : Int := if 0 ≤ lineAt ws line then 1 else if (nth ws (ws.length - 1)).dirty then 15 else 10
def setOf (c : List (List TWay)) (line : Int) : Nat := (line % (c.length : Int)).toNat
def accessOf (c : List (List TWay)) (line : Int) (write : Bool) : List (List TWay) := c.set (setOf c line) (touchSet (nth c (setOf c line)) line write)
def accessCost (c : List (List TWay)) (line : Int) : Int := touchCost (nth c (setOf c line)) line
def dirties (ws : List TWay) : Nat := (ws.filter (·.dirty)).length
def flushOf (c : List (List TWay)) : Int := 2 + 5 * ((c.map dirties).sum : Nat)
def emptyCache (sets ways : Nat) : List (List TWay) := List.replicate sets (List.replicate ways ⟨0, false⟩)

theorem lineAt_cases (ws : List TWay) (line : Int) :
    (∃ k : Nat, k < ws.length ∧ lineAt ws line = k ∧ (nth ws k).line = line ∧ ∀ j, j < k → (nth ws j).line ≠ line) ∨ (lineAt ws line = -1 ∧ ∀ j, j < ws.length → (nth ws j).line ≠ line) := by
  unfold lineAt findI
  cases h : (List.range ws.length).find? (fun j => (nth ws j).line == line) with
  | none =>
    rw [List.find?_eq_none] at h
    exact .inr ⟨rfl, fun j hj => by simpa using h j (List.mem_range.2 hj)⟩
  | some k =>
    rw [List.find?_range_eq_some] at h
    exact .inl ⟨k, by simpa using h.2.1, rfl, by simpa using h.1, fun j hj => by simpa using h.2.2 j hj⟩

theorem touchK_lt {ws : List TWay} (line : Int) (h : 1 ≤ ws.length) : touchK ws line < ws.length := by
  unfold touchK
  rcases lineAt_cases ws line with ⟨k, hk, e, _, _⟩ | ⟨e, _⟩
  · rw [e]; simp; omega
  · rw [e]; simp; omega
theorem touchSet_length {ws : List TWay} (line : Int) (write : Bool) (h : 1 ≤ ws.length) : (touchSet ws line write).length = ws.length := by
  unfold touchSet
  rw [List.length_cons, List.length_eraseIdx, if_pos (touchK_lt line h)]
  omega
theorem touchW_line (ws : List TWay) (line : Int) (write : Bool) : (touchW ws line write).line = line := by
  unfold touchW; split <;> rfl

theorem mem_erase {ws : List TWay} {k : Nat} {x : TWay} (h : x ∈ ws.eraseIdx k) : x ∈ ws := (List.eraseIdx_sublist ws k).subset h
/-- of what was touched, all others have other lines -/
theorem erase_ne {n set : Nat} {ws : List TWay} {line : Int} (hok : SetOk n set ws) (hl : 1 ≤ line) : ∀ x ∈ ws.eraseIdx (touchK ws line), x.line ≠ line := by
  intro x hx
  rcases lineAt_cases ws line with ⟨k, hk, e, h1, h2⟩ | ⟨e, h2⟩
  · have hK : touchK ws line = k := by unfold touchK; rw [e]; simp
    rw [hK] at hx
    rw [List.mem_eraseIdx_iff_getElem] at hx
    obtain ⟨i, hi, hne, rfl⟩ := hx
    rw [nth_eq hk] at h1
    intro hx
    rcases Nat.lt_or_gt_of_ne hne with h3 | h3
    · exact absurd hx (by have := h2 i h3; rwa [nth_eq hi] at this)
    · have := List.pairwise_iff_getElem.1 hok.pw k i hk hi h3 (by omega)
      omega
  · obtain ⟨j, hj, rfl⟩ := List.getElem_of_mem (mem_erase hx)
    have := h2 j hj
    rwa [nth_eq hj] at this

theorem touchSet_ok {n set : Nat} {ws : List TWay} {line : Int} (write : Bool) (hok : SetOk n set ws) (hl : 1 ≤ line) (hh : line ≤ 1000) (hm : line % (n : Int) = set) : SetOk n set (touchSet ws line write) := by
  refine ⟨fun x hx => ?_, ?_⟩
  · rcases List.mem_cons.1 hx with rfl | hx
    · have := touchW_line ws line write
      exact ⟨by omega, by omega, fun h => by omega, fun _ => by rw [this]; exact hm⟩
    · exact hok.way x (mem_erase hx)
  · refine List.pairwise_cons.2 ⟨fun b hb h0 => ?_, hok.pw.sublist (List.eraseIdx_sublist _ _)⟩
    rw [touchW_line]
    exact ⟨Ne.symm (erase_ne hok hl b hb), by omega⟩

theorem setOf_lt {c : List (List TWay)} (h : 1 ≤ c.length) (line : Int) : setOf c line < c.length := by
  unfold setOf
  have h1 := Int.emod_lt_of_pos line (show (0 : Int) < c.length by omega)
  have h2 := Int.emod_nonneg line (show (c.length : Int) ≠ 0 by omega)
  omega

theorem access_ok {c : List (List TWay)} {line : Int} (write : Bool) (h : CacheOk c) (hl : 1 ≤ line) (hh : line ≤ 1000) : CacheOk (accessOf c line write) := by
  have hlt := setOf_lt h.h1 line
  have hlen : (accessOf c line write).length = c.length := by simp [accessOf]
  have hl1 : ∀ i, i < c.length → (nth (accessOf c line write) i).length = (nth c i).length := by
    intro i hi
    unfold accessOf
    rw [nth_set hi]
    split
    · rename_i e; subst e; exact touchSet_length _ _ (by rw [h.same _ hi]; exact h.w1)
    · rfl
  have h0 : 0 < c.length := h.h1
  refine ⟨by rw [hlen]; exact h.h1, by rw [hlen]; exact h.h4, by rw [hl1 0 h0]; exact h.w1, by rw [hl1 0 h0]; exact h.w3, fun i hi => ?_, fun i hi => ?_⟩
  · rw [hlen] at hi; rw [hl1 i hi, hl1 0 h0]; exact h.same i hi
  · rw [hlen] at hi ⊢
    unfold accessOf
    rw [nth_set hi]
    split
    · rename_i e; subst e
      refine touchSet_ok write (h.set _ hi) hl hh ?_
      unfold setOf
      have h2 := Int.emod_nonneg line (show (c.length : Int) ≠ 0 by omega)
      omega
    · exact h.set i hi

theorem touchCost_bd (ws : List TWay) (line : Int) : 1 ≤ touchCost ws line ∧ touchCost ws line ≤ 15 := by unfold touchCost; repeat' split <;> omega
theorem lineAt_head (x : TWay) (ws : List TWay) : lineAt (x :: ws) x.line = 0 := by
  unfold lineAt
  exact findI_hit (k := 0) (by simp) (fun j hj => by omega) (by simp [nth])
/-- A3: what was used last costs CostHit -/
theorem access_again {c : List (List TWay)} {line : Int} (write : Bool) (h : 1 ≤ c.length) : accessCost (accessOf c line write) line = 1 := by
  have hlt := setOf_lt h line
  unfold accessCost
  have e1 : setOf (accessOf c line write) line = setOf c line := by simp [setOf, accessOf]
  rw [e1]
  unfold accessOf
  rw [nth_set hlt, if_pos rfl]
  unfold touchCost touchSet
  have := lineAt_head (touchW (nth c (setOf c line)) line write) ((nth c (setOf c line)).eraseIdx (touchK (nth c (setOf c line)) line))
  rw [touchW_line] at this
  rw [this]; simp
theorem sum_le {xs : List Nat} {m : Nat} (h : ∀ x ∈ xs, x ≤ m) : xs.sum ≤ xs.length * m := by
  induction xs with
  | nil => simp
  | cons x l ih =>
    rw [List.sum_cons, List.length_cons, Nat.add_mul]
    have h1 := h x (by simp)
    have h2 := ih fun y hy => h y (by simp [hy])
    omega
theorem flush_bd {c : List (List TWay)} (h : CacheOk c) : 2 ≤ flushOf c ∧ flushOf c ≤ 2 + 5 * (c.length : Int) * ((nth c 0).length : Int) := by
  unfold flushOf
  refine ⟨by omega, ?_⟩
  have h1 : (c.map dirties).sum ≤ c.length * (nth c 0).length := by
    have := sum_le (xs := c.map dirties) (m := (nth c 0).length) (by
      intro x hx
      obtain ⟨ws, hws, rfl⟩ := List.mem_map.1 hx
      obtain ⟨i, hi, rfl⟩ := List.getElem_of_mem hws
      have := h.same i hi
      rw [nth_eq hi] at this
      rw [← this]
      exact List.length_filter_le _ _)
    simpa using this
  have h2 : (((c.map dirties).sum : Nat) : Int) ≤ (c.length : Int) * ((nth c 0).length : Int) := by exact_mod_cast h1
  rw [Int.mul_assoc]
  omega

/-- the reference's way: what stays, and what the last that is alike says -/
def keepOf (ws : List TWay) (line : Int) : List TWay := ws.filter (fun x => x.line != line)
def refFirst (ws : List TWay) (line : Int) (write : Bool) : TWay := ws.foldl (fun f x => if x.line = line then ⟨line, write || x.dirty⟩ else f) ⟨line, write⟩
def refRest (ws : List TWay) (line : Int) : List TWay := if (keepOf ws line).length = ws.length then (keepOf ws line).dropLast else keepOf ws line
def refCost (ws : List TWay) (line : Int) : Int := if (keepOf ws line).length = ws.length then (if (nth (keepOf ws line) ((keepOf ws line).length - 1)).dirty then 15 else 10) else 1

theorem foldl_none {ws : List TWay} {line : Int} {write : Bool} (h : ∀ x ∈ ws, x.line ≠ line) : ∀ f : TWay, ws.foldl (fun f x => if x.line = line then ⟨line, write || x.dirty⟩ else f) f = f := by
  induction ws with
  | nil => intro f; rfl
  | cons x l ih =>
    intro f
    rw [List.foldl_cons, if_neg (h x (by simp))]
    exact ih (fun y hy => h y (by simp [hy])) f

theorem ref_touch {n set : Nat} {ws : List TWay} {line : Int} (write : Bool) (hok : SetOk n set ws) (h1 : 1 ≤ ws.length) (hl : 1 ≤ line) :
    refFirst ws line write = touchW ws line write ∧ refRest ws line = ws.eraseIdx (touchK ws line) ∧ refCost ws line = touchCost ws line := by
  rcases lineAt_cases ws line with ⟨k, hk, e, hx, h2⟩ | ⟨e, h2⟩
  · have hK : touchK ws line = k := by unfold touchK; rw [e]; simp
    have hne := erase_ne (line := line) hok hl
    rw [hK] at hne
    have hsplit : ws = ws.take k ++ ws[k] :: ws.drop (k + 1) := by rw [List.getElem_cons_drop, List.take_append_drop]
    have her : ws.eraseIdx k = ws.take k ++ ws.drop (k + 1) := List.eraseIdx_eq_take_drop_succ ws k
    have hkeep : keepOf ws line = ws.eraseIdx k := by
      unfold keepOf
      rw [her]
      conv => lhs; rw [hsplit]
      rw [List.filter_append, List.filter_cons, if_neg (by rw [nth_eq hk] at hx; simp [hx]), ← List.filter_append, ← her]
      rw [List.filter_eq_self]
      intro x hx
      simpa using hne x hx
    have hlen : (keepOf ws line).length ≠ ws.length := by rw [hkeep, List.length_eraseIdx, if_pos hk]; omega
    refine ⟨?_, ?_, ?_⟩
    · unfold refFirst touchW
      rw [e, if_pos (by omega), hK]
      have hA : ∀ x ∈ ws.take k, x.line ≠ line := fun x hx => hne x (by rw [her]; simp [hx])
      have hB : ∀ x ∈ ws.drop (k + 1), x.line ≠ line := fun x hx => hne x (by rw [her]; simp [hx])
      conv => lhs; rw [hsplit]
      rw [List.foldl_append, foldl_none hA, List.foldl_cons, if_pos (by rw [nth_eq hk] at hx; exact hx), foldl_none hB, nth_eq hk, Bool.or_comm]
    · unfold refRest; rw [if_neg hlen, hkeep, hK]
    · unfold refCost touchCost; rw [if_neg hlen, e, if_pos (by omega)]
  · have hK : touchK ws line = ws.length - 1 := by unfold touchK; rw [e]; simp
    have hno : ∀ x ∈ ws, x.line ≠ line := by
      intro x hx
      obtain ⟨j, hj, rfl⟩ := List.getElem_of_mem hx
      have := h2 j hj
      rwa [nth_eq hj] at this
    have hkeep : keepOf ws line = ws := by
      unfold keepOf
      rw [List.filter_eq_self]
      intro x hx
      simpa using hno x hx
    refine ⟨?_, ?_, ?_⟩
    · unfold refFirst touchW
      rw [e, if_neg (by omega), foldl_none hno]
    · unfold refRest
      rw [hkeep, if_pos rfl, hK, List.eraseIdx_eq_take_drop_succ, List.dropLast_eq_take]
      rw [show ws.length - 1 + 1 = ws.length by omega, List.drop_length, List.append_nil]
    · unfold refCost touchCost
      rw [hkeep, if_pos rfl, e, if_neg (show ¬ (0 : Int) ≤ -1 by omega)]

theorem empty_ok {sets ways : Nat} (h1 : 1 ≤ sets) (h4 : sets ≤ 4) (w1 : 1 ≤ ways) (w3 : ways ≤ 3) : CacheOk (emptyCache sets ways) := by
  have hn : ∀ i, i < sets → nth (emptyCache sets ways) i = List.replicate ways ⟨0, false⟩ := by
    intro i hi
    rw [nth_eq (by simpa [emptyCache] using hi)]
    simp [emptyCache]
  have hl : (emptyCache sets ways).length = sets := by simp [emptyCache]
  refine ⟨by omega, by omega, by rw [hn 0 (by omega)]; simpa using w1, by rw [hn 0 (by omega)]; simpa using w3, fun i hi => ?_, fun i hi => ?_⟩
  · rw [hl] at hi; rw [hn 0 (by omega), hn i hi]
  · rw [hl] at hi ⊢
    rw [hn i hi]
    refine ⟨fun x hx => ?_, ?_⟩
    · rw [List.mem_replicate] at hx
      rw [hx.2]
      exact ⟨by simp, by simp, fun _ => rfl, fun h => absurd rfl h⟩
    · rw [List.pairwise_replicate]
      exact .inr fun h => absurd rfl h
end Go.Proofs.Ytinlmkhlgclbfab
