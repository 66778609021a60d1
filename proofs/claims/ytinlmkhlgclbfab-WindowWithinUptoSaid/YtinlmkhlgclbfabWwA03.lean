/- MemR Data -/
import Derived.Test.YtinlmkhlgclbfabWwA02
section
namespace Go.Proofs.Ytinlmkhlgclbfab
open Go.RowKit

/-- memory that a call has laid itself: from its start's size to its end's -/
def Rng (a b : Nat) : Nat → Prop := fun k => a ≤ k ∧ k < b
/-- memory that came in, and memory that a call has laid itself -/
def LoR (B a b : Nat) : Nat → Prop := fun k => k < B ∨ (a ≤ k ∧ k < b)

/-- in the blocks of I nothing has turned -/
def KeepI (I : Nat → Prop) (w w' : World) : Prop := ∀ k, I k → w'.heap[k]? = w.heap[k]?
theorem KeepI.refl (I : Nat → Prop) (w : World) : KeepI I w w := fun _ _ => rfl
theorem KeepI.alloc {I : Nat → Prop} {w w' : World} (h : KeepI I w w') (hI : ∀ k, I k → k < w'.heap.size) (o : Obj) : KeepI I w (w'.alloc o) :=
  fun k hk => (heap_alloc_old w' o (hI k hk)).trans (h k hk)
theorem KeepI.drew {I : Nat → Prop} {w w' : World} (h : KeepI I w w') : KeepI I w w'.drew := h
theorem KeepI.drewN {I : Nat → Prop} {w w' : World} (h : KeepI I w w') (n : Nat) : KeepI I w (w'.drewN n) := h
theorem KeepI.setCell {I : Nat → Prop} {w w' : World} (h : KeepI I w w') {p : Addr} (hp : ¬ I p.block) (u : Value) : KeepI I w (w'.setCell p u) :=
  fun k hk => (Below.heap_setCell w' p u k (fun e => hp (e ▸ hk))).trans (h k hk)
theorem KeepI.call {I : Nat → Prop} {w v w' : World} {s : Nat} (h : KeepI I w v) (hb : Below s v w') (hI : ∀ k, I k → k < s) : KeepI I w w' :=
  fun k hk => (hb.block k (hI k hk)).trans (h k hk)
theorem KeepI.mono {I J : Nat → Prop} {w w' : World} (h : KeepI I w w') (hJ : ∀ k, J k → I k) : KeepI J w w' := fun k hk => h k (hJ k hk)
theorem KeepI.trans {I : Nat → Prop} {w v w' : World} (h : KeepI I w v) (h' : KeepI I v w') : KeepI I w w' := fun k hk => (h' k hk).trans (h k hk)

theorem Sl.keepI {T : Type} {e : Cod T} {I : Nat → Prop} {w w' : World} {A : Option Addr} {c : Nat} {xs : List T} (h : Sl e I w A c xs) (hk : KeepI I w w') : Sl e I w' A c xs := h.keep hk
theorem Sl.rng {T : Type} {e : Cod T} {a b B : Nat} {w : World} {A : Option Addr} {c : Nat} {xs : List T} (h : Sl e (Rng a b) w A c xs) (hB : b ≤ B) : Sl e (Low B) w A c xs :=
  h.mono fun _ hk => Nat.lt_of_lt_of_le hk.2 hB
theorem Sl.lor {T : Type} {e : Cod T} {a b B B' : Nat} {w : World} {A : Option Addr} {c : Nat} {xs : List T} (h : Sl e (LoR B a b) w A c xs) (hB : b ≤ B') (hB' : B ≤ B') : Sl e (Low B') w A c xs :=
  h.mono fun _ hk => by rcases hk with hk | hk; exact Nat.lt_of_lt_of_le hk hB'; exact Nat.lt_of_lt_of_le hk.2 hB
/-- a row of the call's own, of flat elements, lies in the call's own memory -/
theorem sl_of_own_rng {T : Type} {k : Nat} {f : T → List Value} {hf : ∀ x, (f x).length = k} {w : World} {base : Nat} {e : TypeId} {A : Option Addr} {c n : Nat} {xs : List T} (hn : n = xs.length) (h : w.ownsRow base e k (.slice A n c) n (xs.flatMap f)) :
    Sl (Cod.flat k f hf) (Rng base w.heap.size) w A c xs := by
  subst hn
  obtain ⟨A', c', hv, hsl⟩ := sl_of_own (hf := hf) h
  injection hv with e1 e2 e3
  subst e1; subst e3
  exact hsl
/-- closed where it is used, by the tactic beside it -/
theorem byI {p : Prop} (h : p := by repeat (first | with_reducible exact KeepI.refl _ _ | with_reducible assumption | (with_reducible refine KeepI.drew ?_) | (with_reducible refine KeepI.drewN ?_ _) | ((with_reducible refine KeepI.alloc ?_ ?_ _); rotate_left; (intro kkI hkI; simp only [Low, Rng, LoR] at hkI; first | omega | (simp <;> omega) | (rcases hkI with hkI | hkI <;> first | omega | (simp <;> omega)))) | ((with_reducible refine KeepI.setCell ?_ ?_ _); rotate_left; (intro hkI; simp only [Low, Rng, LoR] at hkI; first | omega | (simp at hkI <;> omega))) | (refine KeepI.call ?_ (by with_reducible assumption) (by (intro kkI hkI; simp only [Low, Rng, LoR] at hkI; first | omega | (simp <;> omega) | (rcases hkI with hkI | hkI <;> first | omega | (simp <;> omega))))))) : p := h
theorem byM {p : Prop} (h : p := by (intro kkI hkI; simp only [Low, Rng, LoR] at hkI ⊢; (try simp at hkI ⊢); (first | omega | (rcases hkI with hkI | hkI <;> omega)))) : p := h
end Go.Proofs.Ytinlmkhlgclbfab
end

section
namespace Go.Proofs.Ytinlmkhlgclbfab
open Go.RowKit

theorem firstE_zero_iff {n : Nat} {f : Nat → Int} : firstE n f = 0 ↔ ∀ j, j < n → f j = 0 := ⟨firstE_zero, firstE_none⟩

/-- '!=' -/
def diffT {T : Type} [DecidableEq T] (x y : T) : Bool := !decide (x = y)
theorem diffT_true {T : Type} [DecidableEq T] {x y : T} : diffT x y = true ↔ x ≠ y := by simp [diffT]
theorem diffT_false {T : Type} [DecidableEq T] {x y : T} : diffT x y = false ↔ x = y := by simp [diffT]

theorem nth_set {T : Type} [Inhabited T] {xs : List T} {i j : Nat} {x : T} (hj : j < xs.length) : nth (xs.set i x) j = if i = j then x else nth xs j := by
  rw [nth_eq (by simpa using hj), List.getElem_set, nth_eq hj]
theorem nth_set_self {T : Type} [Inhabited T] {xs : List T} {i : Nat} {x : T} (hj : i < xs.length) : nth (xs.set i x) i = x := by rw [nth_set hj, if_pos rfl]
theorem nth_set_ne {T : Type} [Inhabited T] {xs : List T} {i j : Nat} {x : T} (h : i ≠ j) : nth (xs.set i x) j = nth xs j := by
  unfold nth; rw [List.getD_eq_getElem?_getD, List.getElem?_set_ne h, List.getD_eq_getElem?_getD]
theorem nth_append_left {T : Type} [Inhabited T] {xs ys : List T} {i : Nat} (h : i < xs.length) : nth (xs ++ ys) i = nth xs i := by
  unfold nth; rw [List.getD_eq_getElem?_getD, List.getElem?_append_left h, List.getD_eq_getElem?_getD]
theorem nth_append_last {T : Type} [Inhabited T] {xs : List T} {x : T} : nth (xs ++ [x]) xs.length = x := by
  unfold nth; rw [List.getD_eq_getElem?_getD, List.getElem?_append_right (Nat.le_refl _)]; simp

theorem Sl.at_flat {T : Type} [Inhabited T] {k : Nat} {f : T → List Value} {hf : ∀ x, (f x).length = k} {I : Nat → Prop} {w : World} {A : Option Addr} {c : Nat} {xs : List T} (h : Sl (Cod.flat k f hf) I w A c xs) {i : Nat} (hi : i < xs.length) :
    ∃ b o, A = some ⟨b, o, none⟩ ∧ I b ∧ ∀ j u, (f (nth xs i))[j]? = some u → w.cell? ⟨b, o + i * k + j, none⟩ = some u := by
  obtain ⟨b, o, es, hA, hI, rfl, hc⟩ := h.cells hi
  exact ⟨b, o, hA, hI, hc⟩

structure TWay where
  line : Int
  dirty : Bool
  deriving Inhabited, DecidableEq
def TWay.cells (x : TWay) : List Value := [.int .i64 x.line, .bool x.dirty]
def cWay : Cod TWay := .flat 2 TWay.cells (fun _ => rfl)
theorem Sl.at_way {I : Nat → Prop} {w : World} {A : Option Addr} {c : Nat} {xs : List TWay} (h : Sl cWay I w A c xs) {i : Nat} (hi : i < xs.length) :
    ∃ b o, A = some ⟨b, o, none⟩ ∧ I b ∧ w.cell? ⟨b, o + i * 2, none⟩ = some (.int .i64 (nth xs i).line) ∧ w.cell? ⟨b, o + i * 2 + 1, none⟩ = some (.bool (nth xs i).dirty) := by
  obtain ⟨b, o, hA, hI, hc⟩ := Sl.at_flat h hi
  exact ⟨b, o, hA, hI, hc 0 _ rfl, hc 1 _ rfl⟩
theorem one_way : ∀ (xs : List TWay), ∀ u ∈ xs.flatMap TWay.cells, u.oneCell' = true := by
  intro xs u hu
  simp only [List.mem_flatMap, TWay.cells, List.mem_cons, List.mem_nil_iff, or_false] at hu
  obtain ⟨n, _, h⟩ := hu
  rcases h with rfl | rfl <;> rfl

structure TSlot where
  dom : Int
  len : Int
  deriving Inhabited, DecidableEq
def TSlot.cells (x : TSlot) : List Value := [.int .i64 x.dom, .int .i64 x.len]
def cSlot : Cod TSlot := .flat 2 TSlot.cells (fun _ => rfl)
theorem Sl.at_slot {I : Nat → Prop} {w : World} {A : Option Addr} {c : Nat} {xs : List TSlot} (h : Sl cSlot I w A c xs) {i : Nat} (hi : i < xs.length) :
    ∃ b o, A = some ⟨b, o, none⟩ ∧ I b ∧ w.cell? ⟨b, o + i * 2, none⟩ = some (.int .i64 (nth xs i).dom) ∧ w.cell? ⟨b, o + i * 2 + 1, none⟩ = some (.int .i64 (nth xs i).len) := by
  obtain ⟨b, o, hA, hI, hc⟩ := Sl.at_flat h hi
  exact ⟨b, o, hA, hI, hc 0 _ rfl, hc 1 _ rfl⟩
theorem one_slot : ∀ (xs : List TSlot), ∀ u ∈ xs.flatMap TSlot.cells, u.oneCell' = true := by
  intro xs u hu
  simp only [List.mem_flatMap, TSlot.cells, List.mem_cons, List.mem_nil_iff, or_false] at hu
  obtain ⟨n, _, h⟩ := hu
  rcases h with rfl | rfl <;> rfl

structure TChan where
  src : Int
  dst : Int
  size : Int
  deriving Inhabited, DecidableEq
def TChan.cells (x : TChan) : List Value := [.int .i64 x.src, .int .i64 x.dst, .int .i64 x.size]
def cChan : Cod TChan := .flat 3 TChan.cells (fun _ => rfl)
theorem Sl.at_chan {I : Nat → Prop} {w : World} {A : Option Addr} {c : Nat} {xs : List TChan} (h : Sl cChan I w A c xs) {i : Nat} (hi : i < xs.length) :
    ∃ b o, A = some ⟨b, o, none⟩ ∧ I b ∧ w.cell? ⟨b, o + i * 3, none⟩ = some (.int .i64 (nth xs i).src) ∧ w.cell? ⟨b, o + i * 3 + 1, none⟩ = some (.int .i64 (nth xs i).dst) ∧ w.cell? ⟨b, o + i * 3 + 2, none⟩ = some (.int .i64 (nth xs i).size) := by
  obtain ⟨b, o, hA, hI, hc⟩ := Sl.at_flat h hi
  exact ⟨b, o, hA, hI, hc 0 _ rfl, hc 1 _ rfl, hc 2 _ rfl⟩
theorem one_chan : ∀ (xs : List TChan), ∀ u ∈ xs.flatMap TChan.cells, u.oneCell' = true := by
  intro xs u hu
  simp only [List.mem_flatMap, TChan.cells, List.mem_cons, List.mem_nil_iff, or_false] at hu
  obtain ⟨n, _, h⟩ := hu
  rcases h with rfl | rfl | rfl <;> rfl

structure TTask where
  dom : Int
  period : Int
  budget : Int
  dead : Int
  deriving Inhabited, DecidableEq
def TTask.cells (x : TTask) : List Value := [.int .i64 x.dom, .int .i64 x.period, .int .i64 x.budget, .int .i64 x.dead]
def cTask : Cod TTask := .flat 4 TTask.cells (fun _ => rfl)
theorem Sl.at_task {I : Nat → Prop} {w : World} {A : Option Addr} {c : Nat} {xs : List TTask} (h : Sl cTask I w A c xs) {i : Nat} (hi : i < xs.length) :
    ∃ b o, A = some ⟨b, o, none⟩ ∧ I b ∧ w.cell? ⟨b, o + i * 4, none⟩ = some (.int .i64 (nth xs i).dom) ∧ w.cell? ⟨b, o + i * 4 + 1, none⟩ = some (.int .i64 (nth xs i).period) ∧ w.cell? ⟨b, o + i * 4 + 2, none⟩ = some (.int .i64 (nth xs i).budget) ∧ w.cell? ⟨b, o + i * 4 + 3, none⟩ = some (.int .i64 (nth xs i).dead) := by
  obtain ⟨b, o, hA, hI, hc⟩ := Sl.at_flat h hi
  exact ⟨b, o, hA, hI, hc 0 _ rfl, hc 1 _ rfl, hc 2 _ rfl, hc 3 _ rfl⟩
theorem one_task : ∀ (xs : List TTask), ∀ u ∈ xs.flatMap TTask.cells, u.oneCell' = true := by
  intro xs u hu
  simp only [List.mem_flatMap, TTask.cells, List.mem_cons, List.mem_nil_iff, or_false] at hu
  obtain ⟨n, _, h⟩ := hu
  rcases h with rfl | rfl | rfl | rfl <;> rfl

structure TArr where
  t : Int
  line : Int
  deriving Inhabited, DecidableEq
def TArr.cells (x : TArr) : List Value := [.int .i64 x.t, .int .i64 x.line]
def cArr : Cod TArr := .flat 2 TArr.cells (fun _ => rfl)
theorem Sl.at_arr {I : Nat → Prop} {w : World} {A : Option Addr} {c : Nat} {xs : List TArr} (h : Sl cArr I w A c xs) {i : Nat} (hi : i < xs.length) :
    ∃ b o, A = some ⟨b, o, none⟩ ∧ I b ∧ w.cell? ⟨b, o + i * 2, none⟩ = some (.int .i64 (nth xs i).t) ∧ w.cell? ⟨b, o + i * 2 + 1, none⟩ = some (.int .i64 (nth xs i).line) := by
  obtain ⟨b, o, hA, hI, hc⟩ := Sl.at_flat h hi
  exact ⟨b, o, hA, hI, hc 0 _ rfl, hc 1 _ rfl⟩
theorem one_arr : ∀ (xs : List TArr), ∀ u ∈ xs.flatMap TArr.cells, u.oneCell' = true := by
  intro xs u hu
  simp only [List.mem_flatMap, TArr.cells, List.mem_cons, List.mem_nil_iff, or_false] at hu
  obtain ⟨n, _, h⟩ := hu
  rcases h with rfl | rfl <;> rfl

structure TAct where
  kind : Int
  n : Int
  value : Int
  deriving Inhabited, DecidableEq
def TAct.cells (x : TAct) : List Value := [.int .i64 x.kind, .int .i64 x.n, .int .i64 x.value]
def cAct : Cod TAct := .flat 3 TAct.cells (fun _ => rfl)
theorem Sl.at_act {I : Nat → Prop} {w : World} {A : Option Addr} {c : Nat} {xs : List TAct} (h : Sl cAct I w A c xs) {i : Nat} (hi : i < xs.length) :
    ∃ b o, A = some ⟨b, o, none⟩ ∧ I b ∧ w.cell? ⟨b, o + i * 3, none⟩ = some (.int .i64 (nth xs i).kind) ∧ w.cell? ⟨b, o + i * 3 + 1, none⟩ = some (.int .i64 (nth xs i).n) ∧ w.cell? ⟨b, o + i * 3 + 2, none⟩ = some (.int .i64 (nth xs i).value) := by
  obtain ⟨b, o, hA, hI, hc⟩ := Sl.at_flat h hi
  exact ⟨b, o, hA, hI, hc 0 _ rfl, hc 1 _ rfl, hc 2 _ rfl⟩
theorem one_act : ∀ (xs : List TAct), ∀ u ∈ xs.flatMap TAct.cells, u.oneCell' = true := by
  intro xs u hu
  simp only [List.mem_flatMap, TAct.cells, List.mem_cons, List.mem_nil_iff, or_false] at hu
  obtain ⟨n, _, h⟩ := hu
  rcases h with rfl | rfl | rfl <;> rfl

structure TJob where
  task : Int
  number : Int
  released : Int
  used : Int
  ran : Bool
  missed : Bool
  deriving Inhabited, DecidableEq
def TJob.cells (x : TJob) : List Value := [.int .i64 x.task, .int .i64 x.number, .int .i64 x.released, .int .i64 x.used, .bool x.ran, .bool x.missed]
def cJob : Cod TJob := .flat 6 TJob.cells (fun _ => rfl)
theorem Sl.at_job {I : Nat → Prop} {w : World} {A : Option Addr} {c : Nat} {xs : List TJob} (h : Sl cJob I w A c xs) {i : Nat} (hi : i < xs.length) :
    ∃ b o, A = some ⟨b, o, none⟩ ∧ I b ∧ w.cell? ⟨b, o + i * 6, none⟩ = some (.int .i64 (nth xs i).task) ∧ w.cell? ⟨b, o + i * 6 + 1, none⟩ = some (.int .i64 (nth xs i).number) ∧ w.cell? ⟨b, o + i * 6 + 2, none⟩ = some (.int .i64 (nth xs i).released) ∧ w.cell? ⟨b, o + i * 6 + 3, none⟩ = some (.int .i64 (nth xs i).used) ∧ w.cell? ⟨b, o + i * 6 + 4, none⟩ = some (.bool (nth xs i).ran) ∧ w.cell? ⟨b, o + i * 6 + 5, none⟩ = some (.bool (nth xs i).missed) := by
  obtain ⟨b, o, hA, hI, hc⟩ := Sl.at_flat h hi
  exact ⟨b, o, hA, hI, hc 0 _ rfl, hc 1 _ rfl, hc 2 _ rfl, hc 3 _ rfl, hc 4 _ rfl, hc 5 _ rfl⟩
theorem one_job : ∀ (xs : List TJob), ∀ u ∈ xs.flatMap TJob.cells, u.oneCell' = true := by
  intro xs u hu
  simp only [List.mem_flatMap, TJob.cells, List.mem_cons, List.mem_nil_iff, or_false] at hu
  obtain ⟨n, _, h⟩ := hu
  rcases h with rfl | rfl | rfl | rfl | rfl | rfl <;> rfl

structure TEv where
  t : Int
  kind : Int
  a : Int
  b : Int
  deriving Inhabited, DecidableEq
def TEv.cells (x : TEv) : List Value := [.int .i64 x.t, .int .i64 x.kind, .int .i64 x.a, .int .i64 x.b]
def cEv : Cod TEv := .flat 4 TEv.cells (fun _ => rfl)
theorem Sl.at_ev {I : Nat → Prop} {w : World} {A : Option Addr} {c : Nat} {xs : List TEv} (h : Sl cEv I w A c xs) {i : Nat} (hi : i < xs.length) :
    ∃ b o, A = some ⟨b, o, none⟩ ∧ I b ∧ w.cell? ⟨b, o + i * 4, none⟩ = some (.int .i64 (nth xs i).t) ∧ w.cell? ⟨b, o + i * 4 + 1, none⟩ = some (.int .i64 (nth xs i).kind) ∧ w.cell? ⟨b, o + i * 4 + 2, none⟩ = some (.int .i64 (nth xs i).a) ∧ w.cell? ⟨b, o + i * 4 + 3, none⟩ = some (.int .i64 (nth xs i).b) := by
  obtain ⟨b, o, hA, hI, hc⟩ := Sl.at_flat h hi
  exact ⟨b, o, hA, hI, hc 0 _ rfl, hc 1 _ rfl, hc 2 _ rfl, hc 3 _ rfl⟩
theorem one_ev : ∀ (xs : List TEv), ∀ u ∈ xs.flatMap TEv.cells, u.oneCell' = true := by
  intro xs u hu
  simp only [List.mem_flatMap, TEv.cells, List.mem_cons, List.mem_nil_iff, or_false] at hu
  obtain ⟨n, _, h⟩ := hu
  rcases h with rfl | rfl | rfl | rfl <;> rfl

structure TRing where
  vals : List Int
  lost : Int
  deriving Inhabited, DecidableEq

def cRing : Cod TRing where
  size := 2
  rel := fun I w cs x => ∃ A c, cs = [.slice A x.vals.length c, .int .i64 x.lost] ∧ Sl cInt I w A c x.vals
  len := fun {_ _ _ _} ⟨_, _, h, _⟩ => by rw [h]; rfl
  keep := fun ⟨A, c, h, hs⟩ hk => ⟨A, c, h, hs.keep hk⟩
  mono := fun ⟨A, c, h, hs⟩ hk => ⟨A, c, h, hs.mono hk⟩
theorem Sl.at_ring {I : Nat → Prop} {w : World} {A : Option Addr} {c : Nat} {xs : List TRing} (h : Sl cRing I w A c xs) {i : Nat} (hi : i < xs.length) :
    ∃ b o A' c', A = some ⟨b, o, none⟩ ∧ I b ∧ w.cell? ⟨b, o + i * 2, none⟩ = some (.slice A' (nth xs i).vals.length c') ∧ w.cell? ⟨b, o + i * 2 + 1, none⟩ = some (.int .i64 (nth xs i).lost) ∧ Sl cInt I w A' c' (nth xs i).vals := by
  obtain ⟨b, o, es, hA, hI, ⟨A', c', rfl, hs⟩, hc⟩ := h.cells hi
  exact ⟨b, o, A', c', hA, hI, hc 0 _ rfl, hc 1 _ rfl, hs⟩

structure TCfg where
  sets : Int
  ways : Int
  doms : Int
  pad : Int
  quantum : Int
  slots : List TSlot
  owners : List Int
  chans : List TChan
  tasks : List TTask
  deriving Inhabited, DecidableEq
/-- where the slices of a TCfg lie -/
structure TCfgS where
  a0 : Option Addr
  n0 : Nat
  a1 : Option Addr
  n1 : Nat
  a2 : Option Addr
  n2 : Nat
  a3 : Option Addr
  n3 : Nat
structure TCfg.At (I : Nat → Prop) (w : World) (x : TCfg) (S : TCfgS) : Prop where
  s0 : Sl cSlot I w S.a0 S.n0 x.slots
  s1 : Sl cInt I w S.a1 S.n1 x.owners
  s2 : Sl cChan I w S.a2 S.n2 x.chans
  s3 : Sl cTask I w S.a3 S.n3 x.tasks
def TCfg.cells (x : TCfg) (S : TCfgS) : List Value := [.int .i64 x.sets, .int .i64 x.ways, .int .i64 x.doms, .int .i64 x.pad, .int .i64 x.quantum, .slice S.a0 x.slots.length S.n0, .slice S.a1 x.owners.length S.n1, .slice S.a2 x.chans.length S.n2, .slice S.a3 x.tasks.length S.n3]
theorem TCfg.At.keep {I : Nat → Prop} {w w' : World} {x : TCfg} {S : TCfgS} (h : TCfg.At I w x S) (hk : ∀ b, I b → w'.heap[b]? = w.heap[b]?) : TCfg.At I w' x S := ⟨h.s0.keep hk, h.s1.keep hk, h.s2.keep hk, h.s3.keep hk⟩
theorem TCfg.At.mono {I J : Nat → Prop} {w : World} {x : TCfg} {S : TCfgS} (h : TCfg.At I w x S) (hk : ∀ b, I b → J b) : TCfg.At J w x S := ⟨h.s0.mono hk, h.s1.mono hk, h.s2.mono hk, h.s3.mono hk⟩
theorem TCfg.At.next {B : Nat} {w w' : World} {x : TCfg} {S : TCfgS} (h : TCfg.At (Low B) w x S) (hB : B ≤ w.heap.size) (hb : Below w.heap.size w w') : TCfg.At (Low B) w' x S := h.keep fun b hI => hb.block b (Nat.lt_of_lt_of_le hI hB)
theorem TCfg.At.keepI {I : Nat → Prop} {w w' : World} {x : TCfg} {S : TCfgS} (h : TCfg.At I w x S) (hk : KeepI I w w') : TCfg.At I w' x S := h.keep hk
theorem TCfg.At.rng {a b B : Nat} {w : World} {x : TCfg} {S : TCfgS} (h : TCfg.At (Rng a b) w x S) (hB : b ≤ B) : TCfg.At (Low B) w x S := h.mono fun _ hk => Nat.lt_of_lt_of_le hk.2 hB
theorem TCfg.At.up {B B' : Nat} {w : World} {x : TCfg} {S : TCfgS} (h : TCfg.At (Low B) w x S) (hB : B ≤ B') : TCfg.At (Low B') w x S := h.mono fun _ hk => Nat.lt_of_lt_of_le hk hB
def cCfg : Cod TCfg where
  size := 9
  rel := fun I w cs x => ∃ S, cs = x.cells S ∧ TCfg.At I w x S
  len := fun {_ _ _ _} ⟨_, h, _⟩ => by rw [h]; rfl
  keep := fun ⟨S, h, hs⟩ hk => ⟨S, h, hs.keep hk⟩
  mono := fun ⟨S, h, hs⟩ hk => ⟨S, h, hs.mono hk⟩

structure TDom where
  jobs : List TJob
  released : List Int
  next : Int
  ins : List TRing
  taken : List Int
  outs : List (List Int)
  events : List TEv
  deriving Inhabited, DecidableEq
/-- where the slices of a TDom lie -/
structure TDomS where
  a0 : Option Addr
  n0 : Nat
  a1 : Option Addr
  n1 : Nat
  a2 : Option Addr
  n2 : Nat
  a3 : Option Addr
  n3 : Nat
  a4 : Option Addr
  n4 : Nat
  a5 : Option Addr
  n5 : Nat
structure TDom.At (I : Nat → Prop) (w : World) (x : TDom) (S : TDomS) : Prop where
  s0 : Sl cJob I w S.a0 S.n0 x.jobs
  s1 : Sl cInt I w S.a1 S.n1 x.released
  s2 : Sl cRing I w S.a2 S.n2 x.ins
  s3 : Sl cInt I w S.a3 S.n3 x.taken
  s4 : Sl cInt.slice I w S.a4 S.n4 x.outs
  s5 : Sl cEv I w S.a5 S.n5 x.events
def TDom.cells (x : TDom) (S : TDomS) : List Value := [.slice S.a0 x.jobs.length S.n0, .slice S.a1 x.released.length S.n1, .int .i64 x.next, .slice S.a2 x.ins.length S.n2, .slice S.a3 x.taken.length S.n3, .slice S.a4 x.outs.length S.n4, .slice S.a5 x.events.length S.n5]
theorem TDom.At.keep {I : Nat → Prop} {w w' : World} {x : TDom} {S : TDomS} (h : TDom.At I w x S) (hk : ∀ b, I b → w'.heap[b]? = w.heap[b]?) : TDom.At I w' x S := ⟨h.s0.keep hk, h.s1.keep hk, h.s2.keep hk, h.s3.keep hk, h.s4.keep hk, h.s5.keep hk⟩
theorem TDom.At.mono {I J : Nat → Prop} {w : World} {x : TDom} {S : TDomS} (h : TDom.At I w x S) (hk : ∀ b, I b → J b) : TDom.At J w x S := ⟨h.s0.mono hk, h.s1.mono hk, h.s2.mono hk, h.s3.mono hk, h.s4.mono hk, h.s5.mono hk⟩
theorem TDom.At.next {B : Nat} {w w' : World} {x : TDom} {S : TDomS} (h : TDom.At (Low B) w x S) (hB : B ≤ w.heap.size) (hb : Below w.heap.size w w') : TDom.At (Low B) w' x S := h.keep fun b hI => hb.block b (Nat.lt_of_lt_of_le hI hB)
theorem TDom.At.keepI {I : Nat → Prop} {w w' : World} {x : TDom} {S : TDomS} (h : TDom.At I w x S) (hk : KeepI I w w') : TDom.At I w' x S := h.keep hk
theorem TDom.At.rng {a b B : Nat} {w : World} {x : TDom} {S : TDomS} (h : TDom.At (Rng a b) w x S) (hB : b ≤ B) : TDom.At (Low B) w x S := h.mono fun _ hk => Nat.lt_of_lt_of_le hk.2 hB
theorem TDom.At.up {B B' : Nat} {w : World} {x : TDom} {S : TDomS} (h : TDom.At (Low B) w x S) (hB : B ≤ B') : TDom.At (Low B') w x S := h.mono fun _ hk => Nat.lt_of_lt_of_le hk hB
def cDom : Cod TDom where
  size := 7
  rel := fun I w cs x => ∃ S, cs = x.cells S ∧ TDom.At I w x S
  len := fun {_ _ _ _} ⟨_, h, _⟩ => by rw [h]; rfl
  keep := fun ⟨S, h, hs⟩ hk => ⟨S, h, hs.keep hk⟩
  mono := fun ⟨S, h, hs⟩ hk => ⟨S, h, hs.mono hk⟩

structure TScr where
  actions : List (List TAct)
  arrivals : List TArr
  rounds : Int
  deriving Inhabited, DecidableEq
/-- where the slices of a TScr lie -/
structure TScrS where
  a0 : Option Addr
  n0 : Nat
  a1 : Option Addr
  n1 : Nat
structure TScr.At (I : Nat → Prop) (w : World) (x : TScr) (S : TScrS) : Prop where
  s0 : Sl cAct.slice I w S.a0 S.n0 x.actions
  s1 : Sl cArr I w S.a1 S.n1 x.arrivals
def TScr.cells (x : TScr) (S : TScrS) : List Value := [.slice S.a0 x.actions.length S.n0, .slice S.a1 x.arrivals.length S.n1, .int .i64 x.rounds]
theorem TScr.At.keep {I : Nat → Prop} {w w' : World} {x : TScr} {S : TScrS} (h : TScr.At I w x S) (hk : ∀ b, I b → w'.heap[b]? = w.heap[b]?) : TScr.At I w' x S := ⟨h.s0.keep hk, h.s1.keep hk⟩
theorem TScr.At.mono {I J : Nat → Prop} {w : World} {x : TScr} {S : TScrS} (h : TScr.At I w x S) (hk : ∀ b, I b → J b) : TScr.At J w x S := ⟨h.s0.mono hk, h.s1.mono hk⟩
theorem TScr.At.next {B : Nat} {w w' : World} {x : TScr} {S : TScrS} (h : TScr.At (Low B) w x S) (hB : B ≤ w.heap.size) (hb : Below w.heap.size w w') : TScr.At (Low B) w' x S := h.keep fun b hI => hb.block b (Nat.lt_of_lt_of_le hI hB)
theorem TScr.At.keepI {I : Nat → Prop} {w w' : World} {x : TScr} {S : TScrS} (h : TScr.At I w x S) (hk : KeepI I w w') : TScr.At I w' x S := h.keep hk
theorem TScr.At.rng {a b B : Nat} {w : World} {x : TScr} {S : TScrS} (h : TScr.At (Rng a b) w x S) (hB : b ≤ B) : TScr.At (Low B) w x S := h.mono fun _ hk => Nat.lt_of_lt_of_le hk.2 hB
theorem TScr.At.up {B B' : Nat} {w : World} {x : TScr} {S : TScrS} (h : TScr.At (Low B) w x S) (hB : B ≤ B') : TScr.At (Low B') w x S := h.mono fun _ hk => Nat.lt_of_lt_of_le hk hB
def cScr : Cod TScr where
  size := 3
  rel := fun I w cs x => ∃ S, cs = x.cells S ∧ TScr.At I w x S
  len := fun {_ _ _ _} ⟨_, h, _⟩ => by rw [h]; rfl
  keep := fun ⟨S, h, hs⟩ hk => ⟨S, h, hs.keep hk⟩
  mono := fun ⟨S, h, hs⟩ hk => ⟨S, h, hs.mono hk⟩

end Go.Proofs.Ytinlmkhlgclbfab
end
