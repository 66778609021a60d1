/- RdPick RngB RegInvF -/
import Derived.Test.YtinlmkhlgclbfaaRtA08
import Derived.Test.YtinlmkhlgclbfaaRtA09
import Derived.Test.YtinlmkhlgclbfaaRtA29
import Derived.RangeFuncNested
import Derived.RangeFuncBound
import Derived.OrdersIn
section
namespace Go.Proofs.Ytinlmkhlgclbfaa
open Go.RowKit
set_option maxRecDepth 100000
set_option maxHeartbeats 4000000

theorem checkBoth_ok {c : TCfg} {dom : Int} {d : TDom} (h : checkBoth c dom d = 0) : CfgOk c ∧ DomOk c dom d := by
  unfold checkBoth thenE at h
  split at h
  · exact ⟨checkConfig_ok (by assumption), domErr_zero.1 h⟩
  · contradiction

theorem readyPick (c : TCfg) (S : TCfgS) (dom : Int) (d : TDom) (T : TDomS) (hz : DomSz d) (B : Nat) (w : World) (hB : B ≤ w.heap.size) (hs : TCfg.At (Low B) w c S) (hd : TDom.At (Low B) w d T) :
    Calls Try.prog 50 #[.agg #[.int .i64 c.sets, .int .i64 c.ways, .int .i64 c.doms, .int .i64 c.pad, .int .i64 c.quantum, .slice S.a0 c.slots.length S.n0, .slice S.a1 c.owners.length S.n1, .slice S.a2 c.chans.length S.n2, .slice S.a3 c.tasks.length S.n3], .int .i64 dom, .agg #[.slice T.a0 d.jobs.length T.n0, .slice T.a1 d.released.length T.n1, .int .i64 d.next, .slice T.a2 d.ins.length T.n2, .slice T.a3 d.taken.length T.n3, .slice T.a4 d.outs.length T.n4, .slice T.a5 d.events.length T.n5]] w fun e w' => e = .returned (.tuple #[.int .i64 (if checkBoth c dom d = 0 then bestOf c d.jobs else 0), .int .i64 (checkBoth c dom d)]) ∧ Below w.heap.size w w' := by
  have H1 := Lib.hid (fun W (h : Below w.heap.size w W) => readyKeeper c S dom d T hz B W (Nat.le_trans hB h.size) (hs.next hB h) (hd.next hB h))
  go_enter Try.func50, Try.ntmps50
  go_wp2_with (first | (go_at_call 95; refine (H1.out _ byB).mono ?_; rintro e w2 (⟨e1, rfl, hb2⟩ | ⟨gk, G2, T2, e1, rfl, hK, hgk, hG2, hb2⟩)) | (go_at_call 98; refine (keeperBest gk G2 B _ c S dom d T2 hK (checkBoth_ok e1).1 (checkBoth_ok e1).2).mono ?_; rintro e w3 ⟨rfl, hb3⟩))
  · refine bodyPost_ret (v := .tuple #[.int .i64 0, .int .i64 (checkBoth c dom d)]) (by simp [results, Try.results50, go_sem, *]) rfl ?_
    exact ⟨rfl, byB⟩
  · refine bodyPost_ret (v := .tuple #[.int .i64 (bestOf c d.jobs), .int .i64 0]) (by simp [results, Try.results50, go_sem, *]) rfl ?_
    have B1 : Below w.heap.size w w2 := byB
    exact ⟨rfl, B1.trans (hb3.mono B1.size)⟩
end Go.Proofs.Ytinlmkhlgclbfaa
end

section
namespace Go.Proofs.Ytinlmkhlgclbfaa
open Go.RowKit

/-- the iterator's contract, called at (bound .. , yield l): the rounds all go on -/
def IterB {α : Type} (F : Fence) (n : Nat) (P : Program) (g : Nat) (fb : Array Value) (encs : α → Array Value) (V : α → Prop) (Rd : World → Prop) (S : List α → Prop) (N : Nat) : Prop :=
  ∀ (l : Nat) (J : List α → World → Prop) (W : World), (∀ pre A, J pre A → Rd A) → (∀ pre A A', J pre A → Below A.heap.size A A' → J pre A') →
    (∀ pre x A, V x → J pre A → pre.length < N → YieldAt F (n - 1) P l (encs x) A fun e A' => e = .returned (.bool true) ∧ J (pre ++ [x]) A') →
    J [] W → CallsIn F n P g (fb ++ #[.func (.yield l) #[] #[]]) W fun e W' => (∃ v, e = .returned v) ∧ ∃ xs, S xs ∧ J xs W'


/-- the statement: the loop's two blocks are w.heap.size (the deferred calls) and w.heap.size + 1 (the record) -/
theorem wpIn_rangeB {F : Fence} {n : Nat} {P : Program} {α : Type} {g : Operand} {ps : Array Tmp} {assign body : Code} {Q : Exit → Act → World → Prop} {a : Act} {w : World}
    (hro : F.round = none) (h1 : 1 ≤ n) {gf : Nat} {fb : Array Value} (hg : a.eval g = .func (.func gf) fb #[]) (hFg : F.fn gf) (eg : ∀ args w, (callFunc gf args).run P w = .ok (.enter gf args) w)
    {encs : α → Array Value} {V : α → Prop} {Rd : World → Prop} {S : List α → Prop} {N : Nat} (hit : IterB F (n - 1) P gf fb encs V Rd S N) (hps : ∀ x, (encs x).size = ps.size)
    (I : List α → World → Prop) (hRd : ∀ pre A, I pre A → Rd A) (hext : ∀ pre A A', I pre A → Below A.heap.size A A' → I pre A')
    (hput : ∀ pre A o, I pre A → I pre (A.putObj (w.heap.size + 1) o)) (h0 : ∀ W1, w.heap.size + 2 ≤ W1.heap.size → Below w.heap.size w W1 → I [] W1) (a₁ : α → Act)
    (hassign : ∀ (l : Nat) (x : α) (W : World) (K : Act → World → Prop), K (a₁ x) W →
      assign.wpIn (F.inRound l) (n - 1 - 1) P (Exit.then K (fun _ _ _ => False)) { tmps := (ps.zip (encs x)).foldl (fun t (p, v) => t.setIfInBounds p v) a.tmps, defers := [] } W)
    (hbody : ∀ (pre : List α) (x : α) (W : World), V x → w.heap.size + 2 ≤ W.heap.size → I pre W → pre.length < N →
      body.wpIn (F.inRound (w.heap.size + 1)) (n - 1 - 1) P (fun e _ W' => e = .normal ∧ W'.heap[w.heap.size]? = W.heap[w.heap.size]? ∧ W'.heap[w.heap.size + 1]? = W.heap[w.heap.size + 1]? ∧ W.heap.size ≤ W'.heap.size ∧ I (pre ++ [x]) W') (a₁ x) W)
    (hdone : ∀ (xs : List α) (W : World), S xs → I xs W → W.heap[w.heap.size]? = some (.deferred (some [])) → w.heap.size + 2 ≤ W.heap.size → Q .normal { a with defers := { target := .collected w.heap.size, args := #[] } :: a.defers } W) :
    (Code.rangeFunc g ps assign body).wpIn F n P Q a w := by
  refine wpIn_rangeFunc fun fn hfn => ?_
  rw [hro]
  obtain ⟨rc, hrc⟩ : ∃ rc : LoopState → Loop, rc = fun st => { state := st, pending := none, fn, tmps := a.tmps, params := ps, assign, body, defers := w.heap.size } := ⟨_, rfl⟩
  obtain ⟨W1, hW1⟩ : ∃ W1, (w.alloc (.deferred (some []))).alloc (.loop (rc .ready)) = W1 := ⟨_, rfl⟩
  have hs1 : W1.heap.size = w.heap.size + 2 := by rw [← hW1]; simp
  have hL : W1.heap[w.heap.size + 1]? = some (.loop (rc .ready)) := by rw [← hW1]; exact heapAt _ _ _ (by simp)
  have hD : W1.heap[w.heap.size]? = some (.deferred (some [])) := by rw [← hW1]; exact (heap_alloc_old _ _ (by simp)).trans (heapAt _ _ _ rfl)
  have hI1 : I [] W1 := h0 W1 (by omega) (by rw [← hW1]; exact ((Below.refl _ w).alloc (Nat.le_refl _) _).alloc (by simp) _)
  refine ⟨w.heap.size + 1, [{ target := .collected w.heap.size, args := #[] }], W1, { target := .fn (.func gf) #[], args := fb ++ #[.func (.yield (w.heap.size + 1)) #[] #[]] }, W1, gf, fb ++ #[.func (.yield (w.heap.size + 1)) #[] #[]], W1, ?_, ?_, ?_, ?_, fun _ => h1, ?_⟩
  · rw [← hW1, hrc]; exact run_enterLoop_outer _ _ _ _ _
  · simp only [resolve, hg]
    simp [go_sem]
  · intro f' hf'; simp [Target.leads] at hf'; subst hf'; exact hFg
  · simp [invoke, go_sem, eg]
  · refine (hit (w.heap.size + 1) (fun pre W => I pre W ∧ W.heap[w.heap.size + 1]? = some (.loop (rc .ready)) ∧ W.heap[w.heap.size]? = some (.deferred (some [])) ∧ w.heap.size + 2 ≤ W.heap.size) W1
      (fun pre A h => hRd pre A h.1) (fun pre A A' h hb => ⟨hext pre A A' h.1 hb, (hb.block _ (by omega)).trans h.2.1, (hb.block _ (by omega)).trans h.2.2.1, Nat.le_trans h.2.2.2 hb.size⟩) ?_ ⟨hI1, hL, hD, by omega⟩).mono ?_
    · rintro pre x W hV ⟨hi, hl, hk, hsz⟩ hlen
      have hy := run_yield (P := P) (args := encs x) hl (by rw [hrc]; exact hps x)
      rw [hrc] at hy
      refine ⟨fn, _, assign, body, hy, roundIn_of_wpIn hfn (hassign _ x W _ ⟨_, run_beginRound hl (by rw [hrc]), ?_⟩)⟩
      have hl2 : (W.putObj (w.heap.size + 1) (.loop { rc .ready with state := .busy })).heap[w.heap.size + 1]? = some (.loop { rc .ready with state := .busy }) := World.putObj_heap_same (by omega)
      have hk2 : (W.putObj (w.heap.size + 1) (.loop { rc .ready with state := .busy })).heap[w.heap.size]? = some (.deferred (some [])) := (World.putObj_heap_other (by omega)).trans hk
      refine wpIn_mono (hbody pre x _ hV (by simpa using hsz) (hput _ _ _ hi) hlen) ?_
      rintro e a3 W3 ⟨rfl, hd3, hl3, hs3, hi3⟩
      have hl4 := hl3.trans hl2
      have hs4 : w.heap.size + 2 ≤ W3.heap.size := Nat.le_trans (by simpa using hsz) hs3
      refine ⟨_, _, run_endRound none hl4, rfl, hput _ _ _ hi3, ?_, (World.putObj_heap_other (by omega)).trans (hd3.trans hk2), by simpa using hs4⟩
      rw [hrc]
      exact World.putObj_heap_same (by omega)
    · rintro e W2 ⟨⟨v, rfl⟩, xs, hS, hi, hl, hk, hsz⟩
      exact ⟨none, _, by have := run_endLoop (P := P) hl (by rw [hrc]; simp); rw [hrc] at this; exact this, hdone xs _ hS (hput _ _ _ hi) ((World.putObj_heap_other (by omega)).trans hk) (by simpa using hsz)⟩
end Go.Proofs.Ytinlmkhlgclbfaa
end

section
namespace Go.Proofs.Ytinlmkhlgclbfaa
open Go.RowKit
section
variable {F : Fence} {n : Nat} {P : Program} {ops : Array Oper} {Q : Exit → Act → World → Prop}

def StepsFI (F : Fence) (n : Nat) (P : Program) (ops : Array Oper) (Q : Exit → Act → World → Prop) (R : Array Bool → (Nat → Value) → World → Prop) (a : Act) (sl : List Nat) (is : List Nat) : Prop :=
  ∀ i ∈ is, ∀ o, ops[i]? = some o → ∀ l f w, R l f w → ¬ Lst l i → (∀ j ∈ befores o, Lst l j) → (∀ d, o.dst = some d → d ∈ sl) ∧ wpOpIn F n P ops Q i (fun a' w' => ∃ v, a' = (putF a sl f).put o.dst v ∧ R (l.setIfInBounds i true) (upd f o.dst v) w') (putF a sl f) w
theorem wpAnyIn_inv {R : Array Bool → (Nat → Value) → World → Prop} {a : Act} {sl : List Nat} (hnd : sl.Nodup) (ht : topoB ops = true) (hs : StepsFI F n P ops Q R a sl (List.range ops.size))
    (he : ∀ l f w, R l f w → (∀ i, i < ops.size → Lst l i) → Q .normal (putF a sl f) w) :
    ∀ fuel (l : Array Bool) (f : Nat → Value) (w : World), l.size = ops.size → l.toList.count false ≤ fuel → R l f w → wpAnyIn F n P .any ops Q fuel l (putF a sl f) w := by
  intro fuel
  induction fuel with
  | zero =>
    intro l f w hz hc hR
    have hall : ∀ i, i < ops.size → Lst l i := by
      intro i hi
      have hi' : i < l.size := by omega
      have h0 : l.toList.count false = 0 := by omega
      rw [List.count_eq_zero] at h0
      unfold Lst
      simp [Array.getD, hi']
      cases hb : l[i] with
      | true => rfl
      | false => exact absurd (by rw [← hb]; simp) h0
    refine ⟨?_, he l f w hR hall⟩
    refine List.eq_nil_iff_forall_not_mem.2 fun i hi => ?_
    obtain ⟨o, ho, hn, _⟩ := ready_iff hz hi
    exact hn (hall i (Array.getElem?_eq_some_iff.1 ho).1)
  | succ fuel ih =>
    intro l f w hz hc hR
    refine ⟨fun hr => he l f w hR (ready_nil hz ht hr), fun i hi => ?_⟩
    obtain ⟨o, ho, hn, hb⟩ := ready_iff hz hi
    have hlt := (Array.getElem?_eq_some_iff.1 ho).1
    obtain ⟨hd, hw⟩ := hs i (List.mem_range.2 hlt) o ho l f w hR hn hb
    refine wpOpIn_mono (fun a' w' h => ?_) hw
    obtain ⟨v, rfl, hR'⟩ := h
    have hl' : l.toList[i]? = some false := by
      have h2 : i < l.size := by omega
      unfold Lst at hn
      simp [Array.getD, h2] at hn
      simp [h2, hn]
    have hc' : (l.setIfInBounds i true).toList.count false ≤ fuel := by
      rw [Array.toList_setIfInBounds]
      have := count_set l.toList i hl'
      omega
    cases hdst : o.dst with
    | none =>
      rw [hdst] at hR'
      rw [put_none]
      have : upd f none v = f := by funext k; simp [upd]
      rw [this] at hR'
      exact ih _ f w' (by simpa using hz) hc' hR'
    | some d =>
      rw [hdst] at hR'
      rw [putF_put a f d v sl hnd (hd d hdst)]
      exact ih _ _ w' (by simpa using hz) hc' hR'


/-- what an operation owes -/
def StepF (F : Fence) (n : Nat) (P : Program) (ops : Array Oper) (Q : Exit → Act → World → Prop) (R : Array Bool → (Nat → Value) → World → Prop) (a : Act) (sl : List Nat) (i : Nat) (o : Oper) : Prop :=
  (∀ d, o.dst = some d → d ∈ sl) ∧ ∀ l f w, R l f w → ¬ Lst l i → (∀ j ∈ befores o, Lst l j) → ∀ K : Act → World → Prop, Hid (∀ v w', R (l.setIfInBounds i true) (upd f o.dst v) w' → K ((putF a sl f).put o.dst v) w') →
    if Region.wanted o (yielded ops (putF a sl f).tmps) = true then Oper.wpIn F n P o (putF a sl f) w K Q else (∀ f', o.about P w (putF a sl f).eval = some f' → F.fn f') ∧ K ((putF a sl f).put o.dst undef) w
theorem StepF.plain {R : Array Bool → (Nat → Value) → World → Prop} {a : Act} {sl : List Nat} {i : Nat} {o : Oper} (bs : List Nat) (hb : befores o = bs) (hg : o.guard = none) (hd : ∀ d, o.dst = some d → d ∈ sl)
    (h : ∀ l f w, R l f w → ¬ Lst l i → (∀ j ∈ bs, Lst l j) → ∀ K : Act → World → Prop, Hid (∀ v w', R (l.setIfInBounds i true) (upd f o.dst v) w' → K ((putF a sl f).put o.dst v) w') → Cov (Oper.wpIn F n P o (putF a sl f) w K Q)) : StepF F n P ops Q R a sl i o := by
  subst hb
  refine ⟨hd, fun l f w hR hn hb K hK => ?_⟩
  rw [if_pos (by simp [Region.wanted, hg])]
  exact (h l f w hR hn hb K hK).out
/-- wanted, as its guard's slot tells -/
theorem StepF.wanted {R : Array Bool → (Nat → Value) → World → Prop} {a : Act} {sl : List Nat} {i : Nat} {o : Oper} (bs : List Nat) (hb : befores o = bs) (hd : ∀ d, o.dst = some d → d ∈ sl)
    (h : ∀ l f w, R l f w → ¬ Lst l i → (∀ j ∈ bs, Lst l j) → Region.wanted o (yielded ops (putF a sl f).tmps) = true ∧ ∀ K : Act → World → Prop, Hid (∀ v w', R (l.setIfInBounds i true) (upd f o.dst v) w' → K ((putF a sl f).put o.dst v) w') → Cov (Oper.wpIn F n P o (putF a sl f) w K Q)) : StepF F n P ops Q R a sl i o := by
  subst hb
  refine ⟨hd, fun l f w hR hn hb K hK => ?_⟩
  obtain ⟨hw, h2⟩ := h l f w hR hn hb
  rw [if_pos hw]
  exact (h2 K hK).out
/-- passed over, as its guard's slot tells -/
theorem StepF.skipped {R : Array Bool → (Nat → Value) → World → Prop} {a : Act} {sl : List Nat} {i : Nat} {o : Oper} (bs : List Nat) (hb : befores o = bs) (hd : ∀ d, o.dst = some d → d ∈ sl) (hF : ∀ f, F.fn f)
    (h : ∀ l f w, R l f w → ¬ Lst l i → (∀ j ∈ bs, Lst l j) → Region.wanted o (yielded ops (putF a sl f).tmps) = false ∧ R (l.setIfInBounds i true) (upd f o.dst undef) w) : StepF F n P ops Q R a sl i o := by
  subst hb
  refine ⟨hd, fun l f w hR hn hb K hK => ?_⟩
  obtain ⟨hw, h2⟩ := h l f w hR hn hb
  rw [if_neg (by rw [hw]; decide)]
  exact ⟨fun f' _ => hF f', hK.out _ _ h2⟩
/-- the list's operations from place i on -/
def StepsF (F : Fence) (n : Nat) (P : Program) (ops : Array Oper) (Q : Exit → Act → World → Prop) (R : Array Bool → (Nat → Value) → World → Prop) (a : Act) (sl : List Nat) : Nat → List Oper → Prop
  | _, [] => True
  | i, o :: rest => StepF F n P ops Q R a sl i o ∧ StepsF F n P ops Q R a sl (i + 1) rest
theorem StepsF.nil {R : Array Bool → (Nat → Value) → World → Prop} {a : Act} {sl : List Nat} {i : Nat} : StepsF F n P ops Q R a sl i [] := trivial
theorem StepsF.cons {R : Array Bool → (Nat → Value) → World → Prop} {a : Act} {sl : List Nat} {i : Nat} {o : Oper} {rest : List Oper} (i' : Nat) (hi : i + 1 = i') (h : StepF F n P ops Q R a sl i o) (hs : StepsF F n P ops Q R a sl i' rest) : StepsF F n P ops Q R a sl i (o :: rest) := by
  subst hi; exact ⟨h, hs⟩
theorem StepsF.at {R : Array Bool → (Nat → Value) → World → Prop} {a : Act} {sl : List Nat} : ∀ (rest : List Oper) (i : Nat), StepsF F n P ops Q R a sl i rest → ∀ j o, rest[j]? = some o → StepF F n P ops Q R a sl (i + j) o := by
  intro rest
  induction rest with
  | nil => intro i _ j o h; simp at h
  | cons x rest ih =>
    intro i hs j o h
    cases j with
    | zero => simp at h; subst h; exact hs.1
    | succ j =>
      have := ih (i + 1) hs.2 j o (by simpa using h)
      rw [show i + (j + 1) = i + 1 + j by omega]
      exact this

theorem wpIn_region_inv {id : Nat} {a : Act} {w : World} {lo : List Oper} (sl : List Nat) (R : Array Bool → (Nat → Value) → World → Prop) (hm : P.follows .mixedOrders = true) (hnd : sl.Nodup) (ht : topoB lo.toArray = true) (hsz : ∀ s ∈ sl, s < a.tmps.size)
    (h0 : ∀ l, l.size = lo.length → (∀ i, ¬ Lst l i) → R l (fun s => a.tmps.getD s undef) w.drew) (hs : StepsF F n P lo.toArray Q R a sl 0 lo)
    (he : ∀ l f w, R l f w → (∀ i, i < lo.length → Lst l i) → Q .normal (putF a sl f) w) : (Code.region id lo.toArray true).wpIn F n P Q a w := by
  refine wpIn_region_any hm ?_
  have hS : StepsFI F n P lo.toArray Q R a sl (List.range lo.toArray.size) := by
    intro i hi o ho l f w hR hn hb
    have ho' : lo[i]? = some o := by simpa using ho
    obtain ⟨hd, h⟩ := StepsF.at lo 0 hs i o ho'
    rw [Nat.zero_add] at h
    exact ⟨hd, wpOpIn_step ho (fun K' hK => h l f w hR hn hb K' (Lib.hid fun v w' hR' => hK _ _ ⟨v, rfl, hR'⟩))⟩
  have h := wpAnyIn_inv (F := F) (n := n) (P := P) (Q := Q) hnd ht hS (fun l f w hR hall => he l f w hR fun i hi => hall i (by simpa using hi)) lo.toArray.size (Array.replicate lo.toArray.size false) (fun s => a.tmps.getD s undef) w.drew (by simp) (by simp) (h0 _ (by simp) fun i => by unfold Lst; rw [Array.getD_eq_getD_getElem?, Array.getElem?_replicate]; split <;> simp)
  rw [putF_self a sl hsz] at h
  exact h
end
end Go.Proofs.Ytinlmkhlgclbfaa
end
