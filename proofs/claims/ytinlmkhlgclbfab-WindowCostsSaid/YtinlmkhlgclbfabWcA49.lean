/- Open OpenA OpenWay OpenCache OpenAct -/
import Derived.Test.YtinlmkhlgclbfabWcA03
import Derived.ProofKit
import Derived.Deep.Slices
import Derived.Lib.SmallJoins
import Derived.SizedLaws
import Derived.Test.YtinlmkhlgclbfabProg
section
namespace Go.Proofs.Ytinlmkhlgclbfab
open Go.RowKit Go.Deep

/-- two things side by side -/
def Cod.pair {S T : Type} (a : Cod S) (b : Cod T) : Cod (S × T) where
  size := a.size + b.size
  rel := fun I w cs x => ∃ c1 c2, cs = c1 ++ c2 ∧ a.rel I w c1 x.1 ∧ b.rel I w c2 x.2
  len := fun {_ _ _ _} ⟨_, _, h, h1, h2⟩ => by rw [h, List.length_append, a.len h1, b.len h2]
  keep := fun ⟨c1, c2, h, h1, h2⟩ hk => ⟨c1, c2, h, a.keep h1 hk, b.keep h2 hk⟩
  mono := fun ⟨c1, c2, h, h1, h2⟩ hk => ⟨c1, c2, h, a.mono h1 hk, b.mono h2 hk⟩
/-- the same cells, under another name -/
def Cod.via {S T : Type} (f : S → T) (c : Cod T) : Cod S where
  size := c.size
  rel := fun I w cs x => c.rel I w cs (f x)
  len := fun h => c.len h
  keep := fun h hk => c.keep h hk
  mono := fun h hk => c.mono h hk

/-- whatever reads at type t lies as e says, and is ok -/
def Opens (P : Program) {T : Type} (e : Cod T) (ok : T → Prop) (t : TypeId) : Prop :=
  P.cellsOf t = e.size ∧ ∀ (H : Type) (enc : TypeId × Value → H) (w : World) (fuel : Nat) (cs : List Value) (x : DataW H × List MemPlace),
    DataW.trod enc P w 0 (fun _ => true) true fuel t cs = some x → (x.1.weights P t).all (· ≤ reachBytes) = true → ∃ y, e.rel (Low w.heap.size) w cs y ∧ ok y

def okInt (n : Int) : Prop := -9223372036854775808 ≤ n ∧ n ≤ 9223372036854775807
def okAny {T : Type} (_ : T) : Prop := True
def okList {T : Type} (ok : T → Prop) (bytes : Nat) (xs : List T) : Prop := xs.length * bytes ≤ reachBytes ∧ ∀ x ∈ xs, ok x

theorem okInt_of {n : Int} (h : (Lit.int .i64 n).wf = true) : okInt n := by
  simp [Lit.wf, IntKind.min, IntKind.max, IntKind.signed, IntKind.bits] at h
  exact h

theorem opens_int {P : Program} {t : TypeId} (ht : P.underlying t = some (.int .i64)) (hc : P.cellsOf t = 1) : Opens P cInt okInt t := by
  refine ⟨hc, fun H enc w fuel cs x h _ => ?_⟩
  obtain ⟨n, rfl, rfl, hw⟩ := DataW.trod_int ht h
  exact ⟨n, rfl, okInt_of hw⟩
theorem opens_bool {P : Program} {t : TypeId} (ht : P.underlying t = some .bool) (hc : P.cellsOf t = 1) : Opens P cBool okAny t := by
  refine ⟨hc, fun H enc w fuel cs x h _ => ?_⟩
  obtain ⟨n, rfl, rfl⟩ := DataW.trod_bool ht h
  exact ⟨n, rfl, trivial⟩

theorem weightsAll_mem {H : Type} {P : Program} {e : TypeId} {l : List (DataW H)} (h : (DataW.weightsAll P e l).all (· ≤ reachBytes) = true) : ∀ d ∈ l, (d.weights P e).all (· ≤ reachBytes) = true := by
  induction l with
  | nil => intro d hd; simp at hd
  | cons a l ih =>
    intro d hd
    simp only [DataW.weightsAll, List.all_append, Bool.and_eq_true] at h
    rcases List.mem_cons.1 hd with rfl | hd
    · exact h.1
    · exact ih h.2 d hd

theorem opens_slice {P : Program} {T : Type} [Inhabited T] {e : Cod T} {ok : T → Prop} {t el : TypeId} {bytes : Nat} (ht : P.underlying t = some (.slice el)) (hc : P.cellsOf t = 1) (hb : P.bytesOf el = bytes) (hpos : 0 < e.size) (he : Opens P e ok el) :
    Opens P e.slice (okList ok bytes) t := by
  refine ⟨hc, fun H enc w fuel cs x h hsz => ?_⟩
  rcases open_slice ht h with ⟨rfl, rfl⟩ | ⟨a, len, cap, m, n, D, Pl, rfl, _, hl, hm, hmm, rfl, hx⟩
  · exact ⟨[], ⟨none, 0, rfl, Sl.empty _ _ _⟩, by simp [okList]⟩
  · have hmc : m = cap := by simpa using hmm
    subst hmc
    simp only [DataW.weights, ht, List.all_cons, List.all_append, Bool.and_eq_true, List.length_map, List.length_range, hb, decide_eq_true_eq] at hsz
    obtain ⟨hs0, hs1, _⟩ := hsz
    have hD := weightsAll_mem hs1
    rw [he.1] at hx
    obtain ⟨f, hf⟩ := choose_lt (α := T) (p := fun i y => ∃ cs', w.cells? 0 (a.add (i * e.size)) e.size = some cs' ∧ e.rel (Low w.heap.size) w cs' y ∧ ok y) (n := len) (fun i hi => by
      obtain ⟨cs', h1, h2⟩ := hx i (by omega)
      obtain ⟨y, h3, h4⟩ := he.2 H enc w n cs' _ h2 (hD _ (List.mem_map.2 ⟨i, List.mem_range.2 hi, rfl⟩))
      exact ⟨y, cs', h1, h3, h4⟩)
    refine ⟨(List.range len).map f, ⟨some a, m, by simp, by simpa using hl, hm, (fun h => by cases h), fun i hi => ?_⟩, ?_, ?_⟩
    · have hi' : i < len := by simpa using hi
      obtain ⟨cs', h1, h3, h4⟩ := hf i hi'
      obtain ⟨_, hlen, hcell⟩ := World.cells?_some h1
      obtain ⟨v, hv⟩ : ∃ v, cs'[0]? = some v := ⟨cs'[0]'(by omega), List.getElem?_eq_getElem (by omega)⟩
      have hc0 := (hcell 0 hpos).trans hv
      obtain ⟨cs0, h10, _, _⟩ := hf 0 (by omega)
      obtain ⟨_, hlen0, hcell0⟩ := World.cells?_some h10
      obtain ⟨v0, hv0⟩ : ∃ v, cs0[0]? = some v := ⟨cs0[0]'(by omega), List.getElem?_eq_getElem (by omega)⟩
      have hc00 := (hcell0 0 hpos).trans hv0
      obtain ⟨b, o, spot⟩ := a
      have hspot : spot = none := by simpa [Addr.add] using World.cell?_spot hc00
      subst hspot
      have hlt : b < w.heap.size := by
        rw [Go.WideShapes.add_plain, Go.WideShapes.add_plain] at hc0
        unfold World.cell? at hc0
        split at hc0
        · rename_i heq; exact (Array.getElem?_eq_some_iff.1 heq).1
        · cases hc0
      refine ⟨b, o, cs', rfl, hlt, by simpa using h3, fun j u hu => ?_⟩
      have hj : j < e.size := by have := (List.getElem?_eq_some_iff.1 hu).1; omega
      have := hcell j hj
      rw [Go.WideShapes.add_plain, Go.WideShapes.add_plain] at this
      exact this.trans hu
    · simp only [List.length_map, List.length_range]
      exact Nat.le_trans (Nat.mul_le_mul_right _ (by omega)) hs0
    · intro x hx
      obtain ⟨i, hi, rfl⟩ := List.mem_map.1 hx
      obtain ⟨_, _, _, h4⟩ := hf i (List.mem_range.1 hi)
      exact h4

/-- fields from the cell 'off' on, one behind the other -/
def OpensF (P : Program) {T : Type} (e : Cod T) (ok : T → Prop) (off : Nat) (ts : List TypeId) (offs : List Nat) : Prop :=
  ∀ (H : Type) (enc : TypeId × Value → H) (w : World) (fuel : Nat) (cs : List Value) (xs : List (DataW H × List MemPlace)), off + e.size = cs.length →
    xs.length = ts.length → (∀ (i t o : Nat), ts[i]? = some t → offs[i]? = some o → DataW.trod enc P w 0 (fun _ => true) true fuel t ((cs.drop o).take (P.cellsOf t)) = xs[i]?) →
    (DataW.weightsEach P ts (xs.map (·.1))).all (· ≤ reachBytes) = true → ∃ y, e.rel (Low w.heap.size) w (cs.drop off) y ∧ ok y

theorem opensF_one {P : Program} {T : Type} {e : Cod T} {ok : T → Prop} {t : TypeId} {off : Nat} (h : Opens P e ok t) : OpensF P e ok off [t] [off] := by
  intro H enc w fuel cs xs hl hx hf hw
  match xs, hx with
  | [x], _ =>
    have h1 := hf 0 t off rfl rfl
    simp only [DataW.weightsEach, List.map_cons, List.map_nil, List.append_nil] at hw
    rw [h.1, List.take_of_length_le (by simp; omega)] at h1
    exact h.2 H enc w fuel _ x h1 hw
theorem opensF_cons {P : Program} {S T : Type} {a : Cod S} {e : Cod T} {oka : S → Prop} {ok : T → Prop} {t : TypeId} {off off' : Nat} {ts : List TypeId} {offs : List Nat} (h : Opens P a oka t) (h' : OpensF P e ok off' ts offs) (ho : off' = off + a.size) :
    OpensF P (a.pair e) (fun y => oka y.1 ∧ ok y.2) off (t :: ts) (off :: offs) := by
  intro H enc w fuel cs xs hl hx hf hw
  subst ho
  match xs, hx with
  | x :: xs, hx =>
    have h1 := hf 0 t off rfl rfl
    simp only [DataW.weightsEach, List.map_cons, List.all_append, Bool.and_eq_true] at hw
    rw [h.1] at h1
    obtain ⟨y1, r1, k1⟩ := h.2 H enc w fuel _ x h1 hw.1
    obtain ⟨y2, r2, k2⟩ := h' H enc w fuel cs xs (by simp [Cod.pair] at hl; omega) (by simpa using hx) (fun i t' o' ht ho => by simpa using hf (i + 1) t' o' (by simpa using ht) (by simpa using ho)) hw.2
    refine ⟨(y1, y2), ⟨_, _, ?_, r1, r2⟩, k1, k2⟩
    rw [← List.drop_drop, List.take_append_drop]
theorem opens_struct {P : Program} {S T : Type} {e : Cod T} {ok : T → Prop} {ok' : S → Prop} {t : TypeId} {fs : Array Field} (f : S → T) (g : T → S) (hfg : ∀ y, f (g y) = y) (ht : P.underlying t = some (.struct fs)) (hc : P.cellsOf t = e.size)
    (h : OpensF P e ok 0 (fs.toList.map (·.type)) (fs.toList.map (·.offset))) (hok : ∀ y, ok y → ok' (g y)) : Opens P (e.via f) ok' t := by
  refine ⟨hc, fun H enc w fuel cs x hx hsz => ?_⟩
  obtain ⟨xs, n, rfl, rfl, hl, hlen, hf⟩ := DataW.trod_struct ht hx
  simp only [DataW.weights, ht] at hsz
  obtain ⟨y, hr, hy⟩ := h H enc w n cs xs (by omega) (by simpa using hlen) (fun i t o h1 h2 => by
    rw [List.getElem?_map, Option.map_eq_some_iff] at h1 h2
    obtain ⟨F, hF, rfl⟩ := h1
    obtain ⟨F', hF', rfl⟩ := h2
    rw [hF] at hF'
    cases hF'
    exact hf i F (by simpa using hF)) hsz
  refine ⟨g y, ?_, hok y hy⟩
  show e.rel _ _ _ (f (g y))
  rw [hfg]
  simpa using hr

/-- an argument, opened: its cells -/
theorem opens_arg {P : Program} {T : Type} {e : Cod T} {ok : T → Prop} {t : TypeId} (h : Opens P e ok t) {H : Type} {enc : TypeId × Value → H} {w : World} {v : Value} {d : DataW H} {p : List MemPlace} (h0 : DataW.Trod enc P w 0 (fun _ => true) true t v d p)
    (hw : (d.weights P t).all (· ≤ reachBytes) = true) : ∃ y, e.rel (Low w.heap.size) w v.cells.toList y ∧ ok y := by
  obtain ⟨fuel, hf⟩ := h0
  exact h.2 H enc w fuel _ _ hf hw
end Go.Proofs.Ytinlmkhlgclbfab
end

section
namespace Go.Proofs.Ytinlmkhlgclbfab
open Go.ChangeShapes Go.WideShapes Go.ChangeAt Go.RowKit Go.Deep
set_option maxRecDepth 100000

theorem Opens.conv {P : Program} {T : Type} {e e' : Cod T} {ok : T → Prop} {t : TypeId} (h : Opens P e ok t) (hs : e.size = e'.size) (hr : ∀ I w cs x, e.rel I w cs x → e'.rel I w cs x) : Opens P e' ok t :=
  ⟨h.1.trans hs, fun H enc w fuel cs x hx hw => by
    obtain ⟨y, h1, h2⟩ := h.2 H enc w fuel cs x hx hw
    exact ⟨y, hr _ _ _ _ h1, h2⟩⟩
theorem Opens.weaken {P : Program} {T : Type} {e : Cod T} {ok ok' : T → Prop} {t : TypeId} (h : Opens P e ok t) (hr : ∀ x, ok x → ok' x) : Opens P e ok' t :=
  ⟨h.1, fun H enc w fuel cs x hx hw => by
    obtain ⟨y, h1, h2⟩ := h.2 H enc w fuel cs x hx hw
    exact ⟨y, h1, hr y h2⟩⟩
theorem opens_int3 : Opens Try.prog cInt okInt 3 := opens_int Try.underlying3 (by kernel_rfl)
theorem opens_bool4 : Opens Try.prog cBool okAny 4 := opens_bool Try.underlying4 (by kernel_rfl)
theorem opens_ints : Opens Try.prog cInt.slice (okList okInt 8) 23 := opens_slice Try.underlying23 (by kernel_rfl) (by kernel_rfl) (by decide) opens_int3
end Go.Proofs.Ytinlmkhlgclbfab
end

section
namespace Go.Proofs.Ytinlmkhlgclbfab
open Go.ChangeShapes Go.WideShapes Go.ChangeAt Go.RowKit Go.Deep
set_option maxRecDepth 100000

def okWay (x : TWay) : Prop := okInt x.line
theorem opens_way : Opens Try.prog cWay okWay 126 :=
  (opens_struct (S := TWay) (e := (cInt.pair cBool)) (ok' := okWay) (fun x => (x.line, x.dirty)) (fun y => ⟨y.1, y.2⟩) (fun y => rfl) Try.underlying126 (by kernel_rfl) (opensF_cons opens_int3 (opensF_one opens_bool4) rfl) (fun y h => by
    simp only [okWay]
    try simp only [okAny, true_and, and_true] at h
    exact h)).conv rfl (fun I w cs x h => by
    simp only [Cod.via, Cod.pair, cInt, cBool, Cod.flat] at h
    obtain ⟨_, _, rfl, rfl, rfl⟩ := h
    rfl)
end Go.Proofs.Ytinlmkhlgclbfab
end

section
namespace Go.Proofs.Ytinlmkhlgclbfab
open Go.ChangeShapes Go.WideShapes Go.ChangeAt Go.RowKit Go.Deep
set_option maxRecDepth 100000
theorem opens_cache : Opens Try.prog (Cod.via id cWay.slice.slice) (fun _ => True) 63 :=
  opens_struct id id (fun _ => rfl) Try.underlying63 (by kernel_rfl)
    (opensF_one (opens_slice (bytes := 24) Try.underlying61 (by kernel_rfl) (by kernel_rfl) (by decide) (opens_slice (bytes := 16) Try.underlying124 (by kernel_rfl) (by kernel_rfl) (by decide) opens_way))) (fun _ _ => trivial)
end Go.Proofs.Ytinlmkhlgclbfab
end

section
namespace Go.Proofs.Ytinlmkhlgclbfab
open Go.ChangeShapes Go.WideShapes Go.ChangeAt Go.RowKit Go.Deep
set_option maxRecDepth 100000

def okAct (x : TAct) : Prop := okInt x.kind ∧ okInt x.n ∧ okInt x.value
theorem opens_act : Opens Try.prog cAct okAct 65 :=
  (opens_struct (S := TAct) (e := (cInt.pair (cInt.pair cInt))) (ok' := okAct) (fun x => (x.kind, x.n, x.value)) (fun y => ⟨y.1, y.2.1, y.2.2⟩) (fun y => rfl) Try.underlying65 (by kernel_rfl) (opensF_cons opens_int3 (opensF_cons opens_int3 (opensF_one opens_int3) rfl) rfl) (fun y h => by
    simp only [okAct]
    try simp only [okAny, true_and, and_true] at h
    exact h)).conv rfl (fun I w cs x h => by
    simp only [Cod.via, Cod.pair, cInt, cBool, Cod.flat] at h
    obtain ⟨_, _, rfl, rfl, ⟨_, _, rfl, rfl, rfl⟩⟩ := h
    rfl)
end Go.Proofs.Ytinlmkhlgclbfab
end
