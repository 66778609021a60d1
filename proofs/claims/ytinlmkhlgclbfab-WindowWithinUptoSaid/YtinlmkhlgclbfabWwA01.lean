/- Base -/
import Derived.WalkKit
import Derived.Lib.Hide
import Derived.Deep.QuietTactic
import Derived.BigQuiet
import Derived.WalkSpells
import Derived.WalkLawsBesides
namespace Go.Proofs.Ytinlmkhlgclbfab
open Go.RowKit

/-- the element at k, by a name that the walk does not open -/
def nth {T : Type} [Inhabited T] (xs : List T) (k : Nat) : T := xs.getD k default
theorem nth_eq {T : Type} [Inhabited T] {xs : List T} {k : Nat} (h : k < xs.length) : nth xs k = xs[k] := by
  unfold nth; rw [List.getD_eq_getElem?_getD, List.getElem?_eq_getElem h]; rfl
theorem nth_mem {T : Type} [Inhabited T] {xs : List T} {k : Nat} (h : k < xs.length) : nth xs k ∈ xs := by rw [nth_eq h]; exact List.getElem_mem h

/-- an int that stands between two others -/
def inB (a n b : Int) : Bool := decide (a ≤ n) && decide (n ≤ b)
theorem inB_true {a n b : Int} : inB a n b = true ↔ a ≤ n ∧ n ≤ b := by simp [inB]
theorem inB_false {a n b : Int} : inB a n b = false ↔ n < a ∨ b < n := by
  unfold inB; rw [Bool.and_eq_false_iff]; simp

/-- the first that is not 0, of f 0 .. f (n - 1) -/
def firstE : Nat → (Nat → Int) → Int
  | 0, _ => 0
  | n + 1, f => if firstE n f = 0 then f n else firstE n f
theorem firstE_none {n : Nat} {f : Nat → Int} (h : ∀ j, j < n → f j = 0) : firstE n f = 0 := by
  induction n with
  | zero => rfl
  | succ n ih => unfold firstE; rw [if_pos (ih fun j hj => h j (by omega))]; exact h n (by omega)
theorem firstE_hit {n : Nat} {f : Nat → Int} {k : Nat} (hk : k < n) (h : ∀ j, j < k → f j = 0) (h1 : f k ≠ 0) : firstE n f = f k := by
  induction n with
  | zero => omega
  | succ n ih =>
    unfold firstE
    by_cases e : k = n
    · subst e; rw [if_pos (firstE_none h)]
    · rw [ih (by omega), if_neg h1]
theorem firstE_zero {n : Nat} {f : Nat → Int} (h : firstE n f = 0) : ∀ j, j < n → f j = 0 := by
  induction n with
  | zero => intro j hj; omega
  | succ n ih =>
    unfold firstE at h
    by_cases e : firstE n f = 0
    · rw [if_pos e] at h
      intro j hj
      by_cases e' : j = n
      · subst e'; exact h
      · exact ih e j (by omega)
    · rw [if_neg e] at h; exact absurd h e
theorem firstE_congr {n : Nat} {f g : Nat → Int} (h : ∀ j, j < n → f j = g j) : firstE n f = firstE n g := by
  induction n with
  | zero => rfl
  | succ n ih => unfold firstE; rw [ih fun j hj => h j (by omega), h n (by omega)]

/-- where the first lies that p says yes to; -1: nowhere -/
def findI (n : Nat) (p : Nat → Bool) : Int := match (List.range n).find? p with | some i => i | none => -1
theorem findI_hit {n : Nat} {p : Nat → Bool} {k : Nat} (hk : k < n) (h : ∀ j, j < k → p j = false) (h1 : p k = true) : findI n p = k := by
  unfold findI
  rw [show (List.range n).find? p = some k from by rw [List.find?_range_eq_some]; exact ⟨h1, by simpa using hk, fun j hj => by simp [h j hj]⟩]
theorem findI_none {n : Nat} {p : Nat → Bool} (h : ∀ j, j < n → p j = false) : findI n p = -1 := by
  unfold findI
  rw [show (List.range n).find? p = none from by rw [List.find?_eq_none]; intro j hj; simp [h j (by simpa using hj)]]
/-- is there one? -/
def anyI (n : Nat) (p : Nat → Bool) : Bool := (List.range n).any p
theorem findI_any (n : Nat) (p : Nat → Bool) : decide (0 ≤ findI n p) = anyI n p := by
  unfold findI anyI
  cases h : (List.range n).find? p with
  | none =>
    rw [List.find?_eq_none] at h
    have : (List.range n).any p = false := by rw [List.any_eq_false]; exact fun x hx => by simpa using h x hx
    simp [this]
  | some i =>
    have h1 := List.find?_some h
    have h2 := List.mem_of_find?_eq_some h
    have : (List.range n).any p = true := List.any_eq_true.2 ⟨i, h2, h1⟩
    simp [this]
theorem anyI_false {n : Nat} {p : Nat → Bool} : anyI n p = false ↔ ∀ j, j < n → p j = false := by
  unfold anyI; rw [List.any_eq_false]; simp
theorem anyI_true {n : Nat} {p : Nat → Bool} : anyI n p = true ↔ ∃ j, j < n ∧ p j = true := by
  unfold anyI; rw [List.any_eq_true]; simp

/-- the cells cs lie in block b from offset o on -/
def CellsAt (w : World) (b o : Nat) (cs : List Value) : Prop := ∀ j u, cs[j]? = some u → w.cell? ⟨b, o + j, none⟩ = some u
theorem CellsAt.keep {w w' : World} {b o : Nat} {cs : List Value} (h : CellsAt w b o cs) (hb : w'.heap[b]? = w.heap[b]?) : CellsAt w' b o cs :=
  fun j u hu => (World.cell?_of_block (w := w) (a := ⟨b, o + j, none⟩) hb).trans (h j u hu)

/-- HOW A VALUE OF A TYPE LIES IN CELLS: so many cells; when cells read as it, all memory that is reached in blocks of I -/
structure Cod (T : Type) where
  size : Nat
  rel : (Nat → Prop) → World → List Value → T → Prop
  len : ∀ {I w cs x}, rel I w cs x → cs.length = size
  keep : ∀ {I w w' cs x}, rel I w cs x → (∀ b, I b → w'.heap[b]? = w.heap[b]?) → rel I w' cs x
  mono : ∀ {I J w cs x}, rel I w cs x → (∀ b, I b → J b) → rel J w cs x

/-- a type without memory of its own behind it -/
def Cod.flat {T : Type} (k : Nat) (f : T → List Value) (h : ∀ x, (f x).length = k) : Cod T where
  size := k
  rel := fun _ _ cs x => cs = f x
  len := fun {_ _ _ x} e => by rw [e]; exact h x
  keep := fun e _ => e
  mono := fun e _ => e

/-- the slice '.slice A n c' reads as xs -/
structure Sl {T : Type} (e : Cod T) (I : Nat → Prop) (w : World) (A : Option Addr) (c : Nat) (xs : List T) : Prop where
  cap : xs.length ≤ c
  max : c ≤ maxLen
  nil : A = none → c = 0
  elem : ∀ i (h : i < xs.length), ∃ b o es, A = some ⟨b, o, none⟩ ∧ I b ∧ e.rel I w es xs[i] ∧ CellsAt w b (o + i * e.size) es

theorem Sl.keep {T : Type} {e : Cod T} {I : Nat → Prop} {w w' : World} {A : Option Addr} {c : Nat} {xs : List T} (h : Sl e I w A c xs) (hk : ∀ b, I b → w'.heap[b]? = w.heap[b]?) : Sl e I w' A c xs :=
  ⟨h.cap, h.max, h.nil, fun i hi => by
    obtain ⟨b, o, es, hA, hI, hr, hc⟩ := h.elem i hi
    exact ⟨b, o, es, hA, hI, e.keep hr hk, hc.keep (hk b hI)⟩⟩
theorem Sl.mono {T : Type} {e : Cod T} {I J : Nat → Prop} {w : World} {A : Option Addr} {c : Nat} {xs : List T} (h : Sl e I w A c xs) (hk : ∀ b, I b → J b) : Sl e J w A c xs :=
  ⟨h.cap, h.max, h.nil, fun i hi => by
    obtain ⟨b, o, es, hA, hI, hr, hc⟩ := h.elem i hi
    exact ⟨b, o, es, hA, hk b hI, e.mono hr hk, hc⟩⟩
theorem Sl.empty {T : Type} (e : Cod T) (I : Nat → Prop) (w : World) : Sl e I w none 0 [] := ⟨by simp, by simp, fun _ => rfl, fun i hi => by simp at hi⟩

def Cod.slice {T : Type} (e : Cod T) : Cod (List T) where
  size := 1
  rel := fun I w cs xs => ∃ A c, cs = [.slice A xs.length c] ∧ Sl e I w A c xs
  len := fun {_ _ _ _} ⟨_, _, h, _⟩ => by rw [h]; rfl
  keep := fun ⟨A, c, h, hs⟩ hk => ⟨A, c, h, hs.keep hk⟩
  mono := fun ⟨A, c, h, hs⟩ hk => ⟨A, c, h, hs.mono hk⟩

/-- memory below B -/
def Low (B : Nat) : Nat → Prop := fun b => b < B
theorem Sl.below {T : Type} {e : Cod T} {B : Nat} {w w' : World} {A : Option Addr} {c : Nat} {xs : List T} (h : Sl e (Low B) w A c xs) (hb : Below B w w') : Sl e (Low B) w' A c xs :=
  h.keep fun b hI => hb.block b hI
theorem Sl.up {T : Type} {e : Cod T} {B B' : Nat} {w : World} {A : Option Addr} {c : Nat} {xs : List T} (h : Sl e (Low B) w A c xs) (hB : B ≤ B') : Sl e (Low B') w A c xs :=
  h.mono fun b hI => Nat.lt_of_lt_of_le hI hB

/-- what came in is still there, below the heap's size of the world in which it was read -/
theorem Sl.next {T : Type} {e : Cod T} {B : Nat} {w w' : World} {A : Option Addr} {c : Nat} {xs : List T} (h : Sl e (Low B) w A c xs) (hB : B ≤ w.heap.size) (hb : Below w.heap.size w w') : Sl e (Low B) w' A c xs :=
  h.keep fun b hI => hb.block b (Nat.lt_of_lt_of_le hI hB)

/-- the cells of element k, their addresses as the walk reckons them -/
theorem Sl.cells {T : Type} [Inhabited T] {e : Cod T} {I : Nat → Prop} {w : World} {A : Option Addr} {c : Nat} {xs : List T} (h : Sl e I w A c xs) {k : Nat} (hk : k < xs.length) :
    ∃ b o es, A = some ⟨b, o, none⟩ ∧ I b ∧ e.rel I w es (nth xs k) ∧ CellsAt w b (o + k * e.size) es := by
  rw [nth_eq hk]; exact h.elem k hk

/-- int, bool -/
def cInt : Cod Int := .flat 1 (fun n => [.int .i64 n]) (fun _ => rfl)
def cBool : Cod Bool := .flat 1 (fun n => [.bool n]) (fun _ => rfl)

theorem Sl.at_int {I : Nat → Prop} {w : World} {A : Option Addr} {c : Nat} {xs : List Int} (h : Sl cInt I w A c xs) {k : Nat} (hk : k < xs.length) :
    ∃ b o, A = some ⟨b, o, none⟩ ∧ I b ∧ w.cell? ⟨b, o + k, none⟩ = some (.int .i64 (nth xs k)) := by
  obtain ⟨b, o, es, hA, hI, rfl, hc⟩ := h.cells hk
  exact ⟨b, o, hA, hI, by have := hc 0 _ rfl; simpa [cInt, Cod.flat] using this⟩
theorem Sl.at_bool {I : Nat → Prop} {w : World} {A : Option Addr} {c : Nat} {xs : List Bool} (h : Sl cBool I w A c xs) {k : Nat} (hk : k < xs.length) :
    ∃ b o, A = some ⟨b, o, none⟩ ∧ I b ∧ w.cell? ⟨b, o + k, none⟩ = some (.bool (nth xs k)) := by
  obtain ⟨b, o, es, hA, hI, rfl, hc⟩ := h.cells hk
  exact ⟨b, o, hA, hI, by have := hc 0 _ rfl; simpa [cBool, Cod.flat] using this⟩
/-- a slice of slices: the inner slice at k -/
theorem Sl.at_slice {T : Type} {e : Cod T} {I : Nat → Prop} {w : World} {A : Option Addr} {c : Nat} {xs : List (List T)} (h : Sl e.slice I w A c xs) {k : Nat} (hk : k < xs.length) :
    ∃ b o A' c', A = some ⟨b, o, none⟩ ∧ I b ∧ w.cell? ⟨b, o + k, none⟩ = some (.slice A' (nth xs k).length c') ∧ Sl e I w A' c' (nth xs k) := by
  obtain ⟨b, o, es, hA, hI, ⟨A', c', rfl, hs⟩, hc⟩ := h.cells hk
  exact ⟨b, o, A', c', hA, hI, by have := hc 0 _ rfl; simpa [Cod.slice] using this, hs⟩

/-- a call of a function value that names f comes into f -/
def Enters (P : Program) (f : FuncId) : Prop := ∀ (args : Array Value) (w : World), (callFunc f args).run P w = .ok (.enter f args) w

/-- THE WORLD HAS TURNED BELOW ITS OLD SIZE IN BLOCKS OF J ALONE -/
structure Only (J : Nat → Prop) (w w' : World) : Prop where
  os : w'.os = w.os
  tape : w'.tape = w.tape
  output : w'.output = w.output
  size : w.heap.size ≤ w'.heap.size
  block : ∀ k, k < w.heap.size → ¬ J k → w'.heap[k]? = w.heap[k]?

theorem Only.refl (J : Nat → Prop) (w : World) : Only J w w := ⟨rfl, rfl, rfl, Nat.le_refl _, fun _ _ _ => rfl⟩
theorem Only.trans {J : Nat → Prop} {a b c : World} (h : Only J a b) (k : Only J b c) : Only J a c :=
  ⟨k.os.trans h.os, k.tape.trans h.tape, k.output.trans h.output, Nat.le_trans h.size k.size, fun i hi hn => (k.block i (Nat.lt_of_lt_of_le hi h.size) hn).trans (h.block i hi hn)⟩
theorem Only.below {J : Nat → Prop} {w w' : World} (h : Below w.heap.size w w') : Only J w w' := ⟨h.os, h.tape, h.output, h.size, fun k hk _ => h.block k hk⟩
theorem Only.toBelow {J : Nat → Prop} {B : Nat} {w w' : World} (h : Only J w w') (hB : B ≤ w.heap.size) (hJ : ∀ b, J b → B ≤ b) : Below B w w' :=
  ⟨h.os, h.tape, h.output, h.size, fun k hk => h.block k (Nat.lt_of_lt_of_le hk hB) fun hj => by have := hJ k hj; omega⟩

theorem below_drewN {B : Nat} {a w : World} (h : Below B a w) (n : Nat) : Below B a (w.drewN n) := ⟨h.os, h.tape, h.output, h.size, h.block⟩
theorem bcell {W w1 : World} (hb : Below W.heap.size W w1) : (∀ b o, b < W.heap.size → w1.cell? ⟨b, o, none⟩ = W.cell? ⟨b, o, none⟩) ∧ (∀ b o, b < W.heap.size → w1.frozen? ⟨b, o, none⟩ = W.frozen? ⟨b, o, none⟩) :=
  ⟨fun b o h => hb.cell (p := ⟨b, o, none⟩) h, fun b o h => hb.frozen (p := ⟨b, o, none⟩) h⟩

theorem heapAt (w : World) (o : Obj) (g : Nat) (h : g = w.heap.size) : (w.alloc o).heap[g]? = some o := by subst h; exact heap_alloc_new w o
theorem heapAt_drew (w : World) (o : Obj) (g : Nat) (h : g = w.heap.size) : (w.alloc o).drew.heap[g]? = some o := heapAt w o g h
theorem heapAt_drewN (w : World) (o : Obj) (g n : Nat) (h : g = w.heap.size) : ((w.alloc o).drewN n).heap[g]? = some o := heapAt w o g h

theorem heap_drew {w : World} {g : Nat} {x : Option Obj} (h : w.heap[g]? = x) : w.drew.heap[g]? = x := h
theorem heap_drewN {w : World} {g n : Nat} {x : Option Obj} (h : w.heap[g]? = x) : (w.drewN n).heap[g]? = x := h
theorem heap_set_far {w : World} {g : Nat} {x : Option Obj} {p : Addr} {u : Value} (h : w.heap[g]? = x) (hne : g ≠ p.block) : (w.setCell p u).heap[g]? = x := (Below.heap_setCell w p u g hne).trans h
theorem heap_set_same {w : World} {g i : Nat} {t : TypeId} {cs : Array Value} {fr : Nat × Nat} {u : Value} (h : w.heap[g]? = some (.cells cs t fr)) : (w.setCell ⟨g, i, none⟩ u).heap[g]? = some (.cells (cs.setIfInBounds i u) t fr) := by
  simp [World.setCell, Array.getElem?_modify, h]
theorem heap_set2 {w : World} {g : Nat} {t : TypeId} {a b x y : Value} {fr : Nat × Nat} (h : w.heap[g]? = some (.cells #[a, b] t fr)) : ((w.setCell ⟨g, 0, none⟩ x).setCell ⟨g, 1, none⟩ y).heap[g]? = some (.cells #[x, y] t fr) := by
  have := heap_set_same (i := 1) (u := y) (heap_set_same (i := 0) (u := x) h)
  simpa using this
theorem heap_set1 {w : World} {g : Nat} {t : TypeId} {a x : Value} {fr : Nat × Nat} (h : w.heap[g]? = some (.cells #[a] t fr)) : (w.setCell ⟨g, 0, none⟩ x).heap[g]? = some (.cells #[x] t fr) := by
  have := heap_set_same (i := 0) (u := x) h
  simpa using this
/-- a block that is known whole: its cells, none frozen -/
theorem blk {w : World} {g : Nat} {cs : Array Value} {t : TypeId} (h : w.heap[g]? = some (.cells cs t (0, 0))) : (∀ o, w.cell? ⟨g, o, none⟩ = cs[o]?) ∧ (∀ o, w.frozen? ⟨g, o, none⟩ = false) ∧ g < w.heap.size :=
  ⟨fun o => cell_of_row w g o cs t (0, 0) h, fun o => by simp [World.frozen?, h], (Array.getElem?_eq_some_iff.1 h).1⟩

theorem have_then {P G : Prop} (h : P) (k : P → G) : G := k h
theorem ret_int {k : IntKind} {a b : Int} (h : a = b) : Ending.returned (.int k a) = .returned (.int k b) := by rw [h]
theorem ret_bool {a b : Bool} (h : a = b) : Ending.returned (.bool a) = .returned (.bool b) := by rw [h]
/-- closed where it is used, by the tactic beside it -/
theorem byS {p : Prop} (h : p := by first | omega | (simp <;> omega)) : p := h
theorem byB {B : Nat} {w w' : World} (h : Below B w w' := by repeat (first | with_reducible exact Below.refl _ _ | with_reducible assumption | (with_reducible refine Below.drew ?_) | (with_reducible refine Below.alloc ?_ ?_ _; rotate_left; (first | omega | (simp <;> omega))) | (with_reducible refine Below.setCell ?_ ?_ _; rotate_left; (first | omega | (simp <;> omega))) | (with_reducible refine below_drewN ?_ _) | (refine Below.trans ?_ (Below.mono (by with_reducible assumption) (by first | omega | (simp <;> omega)))))) : Below B w w' := h
theorem byH {p : Prop} (h : p := by repeat (first | with_reducible exact heap_set2 (by with_reducible assumption) | with_reducible exact heap_set2 (heapAt _ _ _ rfl) | with_reducible exact heap_set1 (by with_reducible assumption) | with_reducible exact heap_set1 (heapAt _ _ _ rfl) | with_reducible assumption | (with_reducible refine heapAt _ _ _ ?_; first | rfl | (first | omega | (simp <;> omega))) | (with_reducible refine heap_drew ?_) | (with_reducible refine heap_drewN ?_) | (with_reducible refine (heap_alloc_old _ _ ?_).trans ?_; (first | omega | (simp <;> omega))) | (with_reducible refine heap_set_far ?_ ?_; rotate_left; (first | omega | (simp <;> omega))))) : p := h
theorem byN {p : Prop} (h : p := by first | with_reducible exact heapAt _ _ _ (by first | rfl | omega | (simp <;> omega)) | with_reducible exact heapAt_drew _ _ _ (by first | rfl | omega | (simp <;> omega)) | with_reducible exact heapAt_drewN _ _ _ _ (by first | rfl | omega | (simp <;> omega))) : p := h
end Go.Proofs.Ytinlmkhlgclbfab
