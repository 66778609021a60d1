/- WinE NeqEv Open OpenA OpenTimes -/
import Derived.Test.YtinlmkhlgclbfabWwA03
import Derived.Test.YtinlmkhlgclbfabWwA13
import Derived.Test.YtinlmkhlgclbfabProg
import Derived.Laws.StructEq
import Derived.ProofKit
import Derived.Deep.Slices
import Derived.Lib.SmallJoins
import Derived.SizedLaws
section
namespace Go.Proofs.Ytinlmkhlgclbfab
open Go.RowKit

/-- an action was done -/
def doneEv (e : TEv) : Bool := (decide (7 ≤ e.kind) && decide (e.kind ≤ 12)) || decide (e.kind = 4)
/-- behind E nothing was told but what may be; n actions were done -/
def Told (from_ to_ : Int) (E : List TEv) (n : Int) (d : TDom) : Prop := ∃ more, d.events = E ++ more ∧ (∀ e ∈ more, e.t ≤ to_ ∧ (e.kind = 2 ∨ e.kind = 6 ∨ from_ ≤ e.t)) ∧ ((more.filter doneEv).length : Int) = n
theorem Told.refl (from_ to_ : Int) (d : TDom) : Told from_ to_ d.events 0 d := ⟨[], by simp, fun e h => (by cases h), rfl⟩
theorem Told.ev {from_ to_ : Int} {E : List TEv} {n : Int} {d d' : TDom} (h : Told from_ to_ E n d) (he : d'.events = d.events) : Told from_ to_ E n d' := by
  obtain ⟨more, h1, h2, h3⟩ := h
  exact ⟨more, he.trans h1, h2, h3⟩
theorem Told.app {from_ to_ : Int} {E : List TEv} {n m : Int} {d d' : TDom} {e : TEv} (h : Told from_ to_ E n d) (he : d'.events = d.events ++ [e]) (ht : e.t ≤ to_) (hk : e.kind = 2 ∨ e.kind = 6 ∨ from_ ≤ e.t) (hm : m = n + if doneEv e then 1 else 0) : Told from_ to_ E m d' := by
  obtain ⟨more, h1, h2, h3⟩ := h
  refine ⟨more ++ [e], by rw [he, h1, List.append_assoc], fun x hx => ?_, ?_⟩
  · rcases List.mem_append.1 hx with hx | hx
    · exact h2 x hx
    · rw [List.mem_singleton.1 hx]; exact ⟨ht, hk⟩
  · rw [List.filter_append, List.length_append, hm, ← h3]
    cases hd : doneEv e <;> simp [List.filter_cons, hd]
theorem Told.tell {from_ to_ : Int} {E : List TEv} {n m : Int} {d : TDom} {t k a b : Int} (h : Told from_ to_ E n d) (ht : t ≤ to_) (hk : k = 2 ∨ k = 6 ∨ from_ ≤ t) (hm : m = n + if doneEv ⟨t, k, a, b⟩ then 1 else 0) : Told from_ to_ E m (tellOf d t k a b) :=
  h.app (e := ⟨t, k, a, b⟩) rfl ht hk hm
theorem Told.release {from_ to_ : Int} {E : List TEv} {n : Int} {d : TDom} (h : Told from_ to_ E n d) (c : TCfg) (dom now : Int) (hn : now ≤ to_) : Told from_ to_ E n (releaseOf c dom now d) := by
  have hs : ∀ t x, relCan c t now x = true → Told from_ to_ E n x → Told from_ to_ E n (relStep c t x) := fun t x hc hx => by
    have := relCan_iff.1 hc
    unfold relStep
    split
    · exact hx.app (e := ⟨relAt c t x, 2, t, nth x.released t⟩) rfl (by dsimp only; omega) (.inl rfl) (by simp [doneEv])
    · exact hx.ev rfl
  have hl : ∀ t x, Told from_ to_ E n x → Told from_ to_ E n (relTask c dom now t x) := fun t x hx => by
    unfold relTask
    split
    · exact relLoop_keeps (P := Told from_ to_ E n) (fun y hy hc => hs t y hc hy) _ _ hx
    · exact hx
  have hm : ∀ t x, Told from_ to_ E n x → Told from_ to_ E n (missStep c now t x) := fun t x hx => by
    unfold missStep
    split
    · rename_i hc
      simp only [Bool.and_eq_true, decide_eq_true_eq] at hc
      exact hx.app (e := ⟨lateOf c (nth x.jobs t), 6, (nth x.jobs t).task, (nth x.jobs t).number⟩) rfl (by dsimp only; omega) (.inr (.inl rfl)) (by simp [doneEv])
    · exact hx
  have ha : Told from_ to_ E n (relAll c dom now d) := upTo_keeps (P := Told from_ to_ E n) (N := c.tasks.length) (fun t x _ hx => hl t x hx) _ _ _ (by omega) h
  exact upTo_keeps (P := Told from_ to_ E n) (N := (relAll c dom now d).jobs.length) (fun t x _ hx => hm t x hx) _ _ _ (by omega) ha
theorem doA_next (c : TCfg) (dom now : Int) (i : Nat) (a : TAct) (cost : Int) (d : TDom) : (doA c dom now i a cost d).next = d.next + 1 := by
  unfold doA
  have h1 : ∀ now x, (endJ c now a i x).next = x.next := fun now x => by unfold endJ; split <;> rfl
  have h2 : ∀ now x, (midJ c dom now a cost x).next = x.next := fun now x => by
    unfold midJ
    split
    · rfl
    · unfold happenA; repeat' split
      all_goals rfl
  have h3 : (startJ now i d).next = d.next := by unfold startJ; split <;> rfl
  rw [h1, h2]
  show (startJ now i d).next + 1 = _
  rw [h3]
theorem Told.doA {from_ to_ : Int} {E : List TEv} {n : Int} {d : TDom} (h : Told from_ to_ E n d) (c : TCfg) (dom now : Int) (i : Nat) (a : TAct) (cost : Int) (ha : ActOk a) (h1 : from_ ≤ now) (h2 : 0 ≤ cost) (h3 : now + cost ≤ to_) : Told from_ to_ E (n + 1) (doA c dom now i a cost d) := by
  have k1 : Told from_ to_ E n (startJ now i d) := by
    unfold startJ
    split
    · exact h
    · exact (h.ev (d' := { d with jobs := d.jobs.set i { nth d.jobs i with ran := true } }) rfl).tell (by omega) (.inr (.inr h1)) (by simp [doneEv])
  have k2 : Told from_ to_ E n (usedJ cost i (startJ now i d)) := k1.ev rfl
  have k3 : ∀ m, m = n + (if a.kind = 8 then 0 else 1) → Told from_ to_ E m (midJ c dom (now + cost) a cost (usedJ cost i (startJ now i d))) := by
    intro m hm
    generalize usedJ cost i (startJ now i d) = x at *
    have hk := ha.kind
    unfold midJ
    split
    · rename_i hr
      have h8 : a.kind ≠ 8 := by
        intro e
        unfold refusedA at hr
        rw [e] at hr
        simp at hr
      exact k2.tell h3 (.inr (.inr (by omega))) (by rw [hm, if_neg h8]; simp [doneEv])
    · unfold happenA
      split
      · exact k2.tell h3 (.inr (.inr (by omega))) (by rw [hm, if_neg (show ¬ a.kind = 8 by omega)]; simp [doneEv])
      · split
        · exact (k2.ev (d' := { x with outs := _ }) rfl).tell h3 (.inr (.inr (by omega))) (by rw [hm, if_neg (show ¬ a.kind = 8 by omega)]; simp [doneEv])
        · split
          · exact (k2.ev (d' := { x with ins := _ }) rfl).tell h3 (.inr (.inr (by omega))) (by rw [hm, if_neg (show ¬ a.kind = 8 by omega)]; simp [doneEv])
          · split
            · exact k2.tell h3 (.inr (.inr (by omega))) (by rw [hm, if_neg (show ¬ a.kind = 8 by omega)]; simp [doneEv])
            · split
              · exact (k2.tell (t := now + cost) (k := 10) (a := a.n) (b := nth x.taken a.n.toNat) h3 (.inr (.inr (by omega))) (by rw [hm, if_neg (show ¬ a.kind = 8 by omega)]; simp [doneEv])).ev rfl
              · rw [hm, if_pos (show a.kind = 8 by omega)]; simpa using k2
  have k4 : ∀ x, Told from_ to_ E (n + if a.kind = 8 then 0 else 1) x → Told from_ to_ E (n + 1) (endJ c (now + cost) a i x) := fun x hx => by
    unfold endJ
    split
    · refine Told.ev (d := tellOf x (now + cost) (overA c a (nth x.jobs i)) (nth x.jobs i).task (nth x.jobs i).number) ?_ rfl
      refine hx.tell h3 (.inr (.inr (by omega))) ?_
      unfold overA
      by_cases e : a.kind = 8
      · rw [if_pos e, if_pos e]; simp [doneEv]
      · rw [if_neg e, if_neg e]
        split <;> simp [doneEv]
    · rename_i ho
      have h8 : a.kind ≠ 8 := by
        intro e
        unfold overA at ho
        rw [if_pos e] at ho
        omega
      rw [if_neg h8] at hx
      exact hx
  exact k4 _ (k3 _ rfl)
theorem winStep_told {c : TCfg} {dom from_ to_ : Int} {l : List TAct} {s : Win} {E : List TEv} {n0 : Int} (hc : CfgOk c) (hl : l.length ≤ 60) (ha : ∀ i, i < l.length → ActOk (nth l i)) (ht : to_ ≤ 100000) (h : WinIn c dom to_ s) (hlt : s.now < to_) (hf : from_ ≤ s.now) (hT : Told from_ to_ E (s.d.next - n0) s.d) :
    Told from_ to_ E ((winStep c dom l to_ s).d.next - n0) (winStep c dom l to_ s).d := by
  have hr := release_okW (dom := dom) hc (show s.now ≤ 100000 by have := h.now; omega) h.ok
  have hR := hT.release c dom s.now (by omega)
  have e := release_next c dom s.now s.d
  unfold winStep
  dsimp only
  split
  · dsimp only; rw [e]; exact hR
  · split
    · dsimp only; rw [e]; exact hR
    · rename_i hb hn
      have hn1 := hr.next
      have hA := ha (releaseOf c dom s.now s.d).next.toNat (by omega)
      have hsp := spend_bd (k := s.k) hA
      have := hR.doA c dom s.now (bestOf c (releaseOf c dom s.now s.d).jobs).toNat _ (spendN s.k (nth l (releaseOf c dom s.now s.d).next.toNat)) hA hf (by omega) (by omega)
      dsimp only
      rw [doA_next, e]
      rw [show s.d.next + 1 - n0 = s.d.next - n0 + 1 by omega]
      rw [e] at this
      exact this
/-- E4 -/
theorem window_told {c : TCfg} {dom from_ to_ : Int} {l : List TAct} {d : TDom} {k : List (List TWay)} (hc : CfgOk c) (hl : l.length ≤ 60) (ha : ∀ i, i < l.length → ActOk (nth l i)) (h0 : 0 ≤ from_ ∧ from_ ≤ to_ ∧ to_ ≤ 100000) (hd : DomOkW c dom d) (hk : CacheOk k) :
    Told from_ to_ d.events ((windowD c dom d k l from_ to_).next - d.next) (windowD c dom d k l from_ to_) := by
  have key : ∀ n s, WinIn c dom to_ s → from_ ≤ s.now → Told from_ to_ d.events (s.d.next - d.next) s.d → Told from_ to_ d.events ((winLoop c dom l to_ n s).d.next - d.next) (winLoop c dom l to_ n s).d := by
    intro n
    induction n with
    | zero => intro s _ _ h; exact h
    | succ n ih =>
      intro s h1 h2 h3
      unfold winLoop
      split
      · rename_i hlt
        have h4 := winStep_ok hc hl ha h0.2.2 h1 hlt
        exact ih _ h4.1 (by omega) (winStep_told hc hl ha h0.2.2 h1 hlt h2 h3)
      · exact h3
  have h1 := key (to_ - from_).toNat ⟨from_, d, k⟩ ⟨⟨by dsimp only; omega, by dsimp only; omega⟩, hd, hk⟩ (Int.le_refl _) (by
    show Told from_ to_ d.events (d.next - d.next) d
    rw [Int.sub_self]; exact Told.refl _ _ _)
  have h2 := h1.release c dom to_ (Int.le_refl _)
  unfold windowD winOf
  rw [release_next]
  exact h2
end Go.Proofs.Ytinlmkhlgclbfab
end

section
namespace Go.Proofs.Ytinlmkhlgclbfab
open Go.RowKit
set_option maxRecDepth 100000
set_option maxHeartbeats 400000

theorem neqEv (x y : TEv) (w : World) : (binOp .neq 84 (.agg #[.int .i64 x.t, .int .i64 x.kind, .int .i64 x.a, .int .i64 x.b]) (.agg #[.int .i64 y.t, .int .i64 y.kind, .int .i64 y.a, .int .i64 y.b])).run Try.prog w = .ok (.bool (diffT x y)) w := by
  have hf := congrArg (fun u : Option TypeDesc => match u with | some (.struct fs) => fs | _ => #[]) Try.underlying84
  change Try.prog.fieldsOf 84 = _ at hf
  simp only at hf
  rw [run_neq_struct, run_equalIn_agg _ _ _ _ _ (by rw [hf]; exact Try.underlying84) (by kernel_rfl), hf]
  have u1 := Try.underlying3
  have u2 := Try.underlying4
  have hd : diffT x y = !(x.t == y.t && x.kind == y.kind && x.a == y.a && x.b == y.b) := by
    unfold diffT
    congr 1
    rw [Bool.eq_iff_iff]
    cases x; cases y; simp [and_assoc]
  rw [hd]
  clear hd
  simp [Op.eqFields, go_sem, *]
  (repeat' split) <;> simp_all
theorem guardEv : Try.prog.eqGuardType Try.prog.depth 84 = false := by kernel_rfl
end Go.Proofs.Ytinlmkhlgclbfab
end

section
namespace Go.Proofs.Ytinlmkhlgclbfab
open Go.RowKit Go.Deep

/-- two things side by side -/
def Cod.pair {S T : Type} (a : Cod S) (b : Cod T) : Cod (S × T) where
  size := a.size + b.size
  rel := fun I w cs x => ∃ c1 c2, cs = c1 ++ c2 ∧ a.rel I w c1 x.1 ∧ b.rel I w c2 x.2
  len := fun {_ _ _ _} ⟨_, _, h, h1, h2⟩ => by rw [h, List.length_append, a.len h1, b.len h2]
  keep := fun ⟨c1, c2, h, h1, h2⟩ hk => ⟨c1, c2, h, a.keep h1 hk, b.keep h2 hk⟩
  mono := fun ⟨c1, c2, h, h1, h2⟩ hk => ⟨c1, c2, h, a.mono h1 hk, b.mono h2 hk⟩
/-- the same cells, under another name -/
def Cod.via {S T : Type} (f : S → T) (c : Cod T) : Cod S where
  size := c.size
  rel := fun I w cs x => c.rel I w cs (f x)
  len := fun h => c.len h
  keep := fun h hk => c.keep h hk
  mono := fun h hk => c.mono h hk

/-- whatever reads at type t lies as e says, and is ok -/
def Opens (P : Program) {T : Type} (e : Cod T) (ok : T → Prop) (t : TypeId) : Prop :=
  P.cellsOf t = e.size ∧ ∀ (H : Type) (enc : TypeId × Value → H) (w : World) (fuel : Nat) (cs : List Value) (x : DataW H × List MemPlace),
    DataW.trod enc P w 0 (fun _ => true) true fuel t cs = some x → (x.1.weights P t).all (· ≤ reachBytes) = true → ∃ y, e.rel (Low w.heap.size) w cs y ∧ ok y

def okInt (n : Int) : Prop := -9223372036854775808 ≤ n ∧ n ≤ 9223372036854775807
def okAny {T : Type} (_ : T) : Prop := True
def okList {T : Type} (ok : T → Prop) (bytes : Nat) (xs : List T) : Prop := xs.length * bytes ≤ reachBytes ∧ ∀ x ∈ xs, ok x

theorem okInt_of {n : Int} (h : (Lit.int .i64 n).wf = true) : okInt n := by
  simp [Lit.wf, IntKind.min, IntKind.max, IntKind.signed, IntKind.bits] at h
  exact h

theorem opens_int {P : Program} {t : TypeId} (ht : P.underlying t = some (.int .i64)) (hc : P.cellsOf t = 1) : Opens P cInt okInt t := by
  refine ⟨hc, fun H enc w fuel cs x h _ => ?_⟩
  obtain ⟨n, rfl, rfl, hw⟩ := DataW.trod_int ht h
  exact ⟨n, rfl, okInt_of hw⟩
theorem opens_bool {P : Program} {t : TypeId} (ht : P.underlying t = some .bool) (hc : P.cellsOf t = 1) : Opens P cBool okAny t := by
  refine ⟨hc, fun H enc w fuel cs x h _ => ?_⟩
  obtain ⟨n, rfl, rfl⟩ := DataW.trod_bool ht h
  exact ⟨n, rfl, trivial⟩

theorem weightsAll_mem {H : Type} {P : Program} {e : TypeId} {l : List (DataW H)} (h : (DataW.weightsAll P e l).all (· ≤ reachBytes) = true) : ∀ d ∈ l, (d.weights P e).all (· ≤ reachBytes) = true := by
  induction l with
  | nil => intro d hd; simp at hd
  | cons a l ih =>
    intro d hd
    simp only [DataW.weightsAll, List.all_append, Bool.and_eq_true] at h
    rcases List.mem_cons.1 hd with rfl | hd
    · exact h.1
    · exact ih h.2 d hd

theorem opens_slice {P : Program} {T : Type} [Inhabited T] {e : Cod T} {ok : T → Prop} {t el : TypeId} {bytes : Nat} (ht : P.underlying t = some (.slice el)) (hc : P.cellsOf t = 1) (hb : P.bytesOf el = bytes) (hpos : 0 < e.size) (he : Opens P e ok el) :
    Opens P e.slice (okList ok bytes) t := by
  refine ⟨hc, fun H enc w fuel cs x h hsz => ?_⟩
  rcases open_slice ht h with ⟨rfl, rfl⟩ | ⟨a, len, cap, m, n, D, Pl, rfl, _, hl, hm, hmm, rfl, hx⟩
  · exact ⟨[], ⟨none, 0, rfl, Sl.empty _ _ _⟩, by simp [okList]⟩
  · have hmc : m = cap := by simpa using hmm
    subst hmc
    simp only [DataW.weights, ht, List.all_cons, List.all_append, Bool.and_eq_true, List.length_map, List.length_range, hb, decide_eq_true_eq] at hsz
    obtain ⟨hs0, hs1, _⟩ := hsz
    have hD := weightsAll_mem hs1
    rw [he.1] at hx
    obtain ⟨f, hf⟩ := choose_lt (α := T) (p := fun i y => ∃ cs', w.cells? 0 (a.add (i * e.size)) e.size = some cs' ∧ e.rel (Low w.heap.size) w cs' y ∧ ok y) (n := len) (fun i hi => by
      obtain ⟨cs', h1, h2⟩ := hx i (by omega)
      obtain ⟨y, h3, h4⟩ := he.2 H enc w n cs' _ h2 (hD _ (List.mem_map.2 ⟨i, List.mem_range.2 hi, rfl⟩))
      exact ⟨y, cs', h1, h3, h4⟩)
    refine ⟨(List.range len).map f, ⟨some a, m, by simp, by simpa using hl, hm, (fun h => by cases h), fun i hi => ?_⟩, ?_, ?_⟩
    · have hi' : i < len := by simpa using hi
      obtain ⟨cs', h1, h3, h4⟩ := hf i hi'
      obtain ⟨_, hlen, hcell⟩ := World.cells?_some h1
      obtain ⟨v, hv⟩ : ∃ v, cs'[0]? = some v := ⟨cs'[0]'(by omega), List.getElem?_eq_getElem (by omega)⟩
      have hc0 := (hcell 0 hpos).trans hv
      obtain ⟨cs0, h10, _, _⟩ := hf 0 (by omega)
      obtain ⟨_, hlen0, hcell0⟩ := World.cells?_some h10
      obtain ⟨v0, hv0⟩ : ∃ v, cs0[0]? = some v := ⟨cs0[0]'(by omega), List.getElem?_eq_getElem (by omega)⟩
      have hc00 := (hcell0 0 hpos).trans hv0
      obtain ⟨b, o, spot⟩ := a
      have hspot : spot = none := by simpa [Addr.add] using World.cell?_spot hc00
      subst hspot
      have hlt : b < w.heap.size := by
        rw [Go.WideShapes.add_plain, Go.WideShapes.add_plain] at hc0
        unfold World.cell? at hc0
        split at hc0
        · rename_i heq; exact (Array.getElem?_eq_some_iff.1 heq).1
        · cases hc0
      refine ⟨b, o, cs', rfl, hlt, by simpa using h3, fun j u hu => ?_⟩
      have hj : j < e.size := by have := (List.getElem?_eq_some_iff.1 hu).1; omega
      have := hcell j hj
      rw [Go.WideShapes.add_plain, Go.WideShapes.add_plain] at this
      exact this.trans hu
    · simp only [List.length_map, List.length_range]
      exact Nat.le_trans (Nat.mul_le_mul_right _ (by omega)) hs0
    · intro x hx
      obtain ⟨i, hi, rfl⟩ := List.mem_map.1 hx
      obtain ⟨_, _, _, h4⟩ := hf i (List.mem_range.1 hi)
      exact h4

/-- fields from the cell 'off' on, one behind the other -/
def OpensF (P : Program) {T : Type} (e : Cod T) (ok : T → Prop) (off : Nat) (ts : List TypeId) (offs : List Nat) : Prop :=
  ∀ (H : Type) (enc : TypeId × Value → H) (w : World) (fuel : Nat) (cs : List Value) (xs : List (DataW H × List MemPlace)), off + e.size = cs.length →
    xs.length = ts.length → (∀ (i t o : Nat), ts[i]? = some t → offs[i]? = some o → DataW.trod enc P w 0 (fun _ => true) true fuel t ((cs.drop o).take (P.cellsOf t)) = xs[i]?) →
    (DataW.weightsEach P ts (xs.map (·.1))).all (· ≤ reachBytes) = true → ∃ y, e.rel (Low w.heap.size) w (cs.drop off) y ∧ ok y

theorem opensF_one {P : Program} {T : Type} {e : Cod T} {ok : T → Prop} {t : TypeId} {off : Nat} (h : Opens P e ok t) : OpensF P e ok off [t] [off] := by
  intro H enc w fuel cs xs hl hx hf hw
  match xs, hx with
  | [x], _ =>
    have h1 := hf 0 t off rfl rfl
    simp only [DataW.weightsEach, List.map_cons, List.map_nil, List.append_nil] at hw
    rw [h.1, List.take_of_length_le (by simp; omega)] at h1
    exact h.2 H enc w fuel _ x h1 hw
theorem opensF_cons {P : Program} {S T : Type} {a : Cod S} {e : Cod T} {oka : S → Prop} {ok : T → Prop} {t : TypeId} {off off' : Nat} {ts : List TypeId} {offs : List Nat} (h : Opens P a oka t) (h' : OpensF P e ok off' ts offs) (ho : off' = off + a.size) :
    OpensF P (a.pair e) (fun y => oka y.1 ∧ ok y.2) off (t :: ts) (off :: offs) := by
  intro H enc w fuel cs xs hl hx hf hw
  subst ho
  match xs, hx with
  | x :: xs, hx =>
    have h1 := hf 0 t off rfl rfl
    simp only [DataW.weightsEach, List.map_cons, List.all_append, Bool.and_eq_true] at hw
    rw [h.1] at h1
    obtain ⟨y1, r1, k1⟩ := h.2 H enc w fuel _ x h1 hw.1
    obtain ⟨y2, r2, k2⟩ := h' H enc w fuel cs xs (by simp [Cod.pair] at hl; omega) (by simpa using hx) (fun i t' o' ht ho => by simpa using hf (i + 1) t' o' (by simpa using ht) (by simpa using ho)) hw.2
    refine ⟨(y1, y2), ⟨_, _, ?_, r1, r2⟩, k1, k2⟩
    rw [← List.drop_drop, List.take_append_drop]
theorem opens_struct {P : Program} {S T : Type} {e : Cod T} {ok : T → Prop} {ok' : S → Prop} {t : TypeId} {fs : Array Field} (f : S → T) (g : T → S) (hfg : ∀ y, f (g y) = y) (ht : P.underlying t = some (.struct fs)) (hc : P.cellsOf t = e.size)
    (h : OpensF P e ok 0 (fs.toList.map (·.type)) (fs.toList.map (·.offset))) (hok : ∀ y, ok y → ok' (g y)) : Opens P (e.via f) ok' t := by
  refine ⟨hc, fun H enc w fuel cs x hx hsz => ?_⟩
  obtain ⟨xs, n, rfl, rfl, hl, hlen, hf⟩ := DataW.trod_struct ht hx
  simp only [DataW.weights, ht] at hsz
  obtain ⟨y, hr, hy⟩ := h H enc w n cs xs (by omega) (by simpa using hlen) (fun i t o h1 h2 => by
    rw [List.getElem?_map, Option.map_eq_some_iff] at h1 h2
    obtain ⟨F, hF, rfl⟩ := h1
    obtain ⟨F', hF', rfl⟩ := h2
    rw [hF] at hF'
    cases hF'
    exact hf i F (by simpa using hF)) hsz
  refine ⟨g y, ?_, hok y hy⟩
  show e.rel _ _ _ (f (g y))
  rw [hfg]
  simpa using hr

/-- an argument, opened: its cells -/
theorem opens_arg {P : Program} {T : Type} {e : Cod T} {ok : T → Prop} {t : TypeId} (h : Opens P e ok t) {H : Type} {enc : TypeId × Value → H} {w : World} {v : Value} {d : DataW H} {p : List MemPlace} (h0 : DataW.Trod enc P w 0 (fun _ => true) true t v d p)
    (hw : (d.weights P t).all (· ≤ reachBytes) = true) : ∃ y, e.rel (Low w.heap.size) w v.cells.toList y ∧ ok y := by
  obtain ⟨fuel, hf⟩ := h0
  exact h.2 H enc w fuel _ _ hf hw
end Go.Proofs.Ytinlmkhlgclbfab
end

section
namespace Go.Proofs.Ytinlmkhlgclbfab
open Go.ChangeShapes Go.WideShapes Go.ChangeAt Go.RowKit Go.Deep
set_option maxRecDepth 100000

theorem Opens.conv {P : Program} {T : Type} {e e' : Cod T} {ok : T → Prop} {t : TypeId} (h : Opens P e ok t) (hs : e.size = e'.size) (hr : ∀ I w cs x, e.rel I w cs x → e'.rel I w cs x) : Opens P e' ok t :=
  ⟨h.1.trans hs, fun H enc w fuel cs x hx hw => by
    obtain ⟨y, h1, h2⟩ := h.2 H enc w fuel cs x hx hw
    exact ⟨y, hr _ _ _ _ h1, h2⟩⟩
theorem Opens.weaken {P : Program} {T : Type} {e : Cod T} {ok ok' : T → Prop} {t : TypeId} (h : Opens P e ok t) (hr : ∀ x, ok x → ok' x) : Opens P e ok' t :=
  ⟨h.1, fun H enc w fuel cs x hx hw => by
    obtain ⟨y, h1, h2⟩ := h.2 H enc w fuel cs x hx hw
    exact ⟨y, h1, hr y h2⟩⟩
theorem opens_int3 : Opens Try.prog cInt okInt 3 := opens_int Try.underlying3 (by kernel_rfl)
theorem opens_bool4 : Opens Try.prog cBool okAny 4 := opens_bool Try.underlying4 (by kernel_rfl)
theorem opens_ints : Opens Try.prog cInt.slice (okList okInt 8) 23 := opens_slice Try.underlying23 (by kernel_rfl) (by kernel_rfl) (by decide) opens_int3
end Go.Proofs.Ytinlmkhlgclbfab
end

section
namespace Go.Proofs.Ytinlmkhlgclbfab
open Go.ChangeShapes Go.WideShapes Go.ChangeAt Go.RowKit Go.Deep
set_option maxRecDepth 100000

structure TTimes where
  t0 : Int
  t1 : Int
  deriving Inhabited, DecidableEq
def TTimes.cells (x : TTimes) : List Value := [.int .i64 x.t0, .int .i64 x.t1]
def cTimes : Cod TTimes := .flat 2 TTimes.cells (fun _ => rfl)
def okTimes (x : TTimes) : Prop := okInt x.t0 ∧ okInt x.t1
theorem opens_times : Opens Try.prog cTimes okTimes 47 :=
  (opens_struct (S := TTimes) (e := (cInt.pair cInt)) (ok' := okTimes) (fun x => (x.t0, x.t1)) (fun y => ⟨y.1, y.2⟩) (fun y => rfl) Try.underlying47 (by kernel_rfl) (opensF_cons opens_int3 (opensF_one opens_int3) rfl) (fun y h => by
    simp only [okTimes]
    try simp only [okAny, true_and, and_true] at h
    exact h)).conv rfl (fun I w cs x h => by
    simp only [Cod.via, Cod.pair, cInt, cBool, Cod.flat] at h
    obtain ⟨_, _, rfl, rfl, rfl⟩ := h
    rfl)
end Go.Proofs.Ytinlmkhlgclbfab
end
