/- RegInvF CloneJob CloneEv CloneWay CacheB -/
import Derived.Test.YtinlmkhlgclbfabTsA03
import Derived.Test.YtinlmkhlgclbfabTsA08
import Derived.Test.YtinlmkhlgclbfabTsA10
import Derived.Test.YtinlmkhlgclbfabTsA11
import Derived.Test.YtinlmkhlgclbfabTsA17
import Derived.OrdersIn
section
namespace Go.Proofs.Ytinlmkhlgclbfab
open Go.RowKit
section
variable {F : Fence} {n : Nat} {P : Program} {ops : Array Oper} {Q : Exit → Act → World → Prop}

def StepsFI (F : Fence) (n : Nat) (P : Program) (ops : Array Oper) (Q : Exit → Act → World → Prop) (R : Array Bool → (Nat → Value) → World → Prop) (a : Act) (sl : List Nat) (is : List Nat) : Prop :=
  ∀ i ∈ is, ∀ o, ops[i]? = some o → ∀ l f w, R l f w → ¬ Lst l i → (∀ j ∈ befores o, Lst l j) → (∀ d, o.dst = some d → d ∈ sl) ∧ wpOpIn F n P ops Q i (fun a' w' => ∃ v, a' = (putF a sl f).put o.dst v ∧ R (l.setIfInBounds i true) (upd f o.dst v) w') (putF a sl f) w
theorem wpAnyIn_inv {R : Array Bool → (Nat → Value) → World → Prop} {a : Act} {sl : List Nat} (hnd : sl.Nodup) (ht : topoB ops = true) (hs : StepsFI F n P ops Q R a sl (List.range ops.size))
    (he : ∀ l f w, R l f w → (∀ i, i < ops.size → Lst l i) → Q .normal (putF a sl f) w) :
    ∀ fuel (l : Array Bool) (f : Nat → Value) (w : World), l.size = ops.size → l.toList.count false ≤ fuel → R l f w → wpAnyIn F n P .any ops Q fuel l (putF a sl f) w := by
  intro fuel
  induction fuel with
  | zero =>
    intro l f w hz hc hR
    have hall : ∀ i, i < ops.size → Lst l i := by
      intro i hi
      have hi' : i < l.size := by omega
      have h0 : l.toList.count false = 0 := by omega
      rw [List.count_eq_zero] at h0
      unfold Lst
      simp [Array.getD, hi']
      cases hb : l[i] with
      | true => rfl
      | false => exact absurd (by rw [← hb]; simp) h0
    refine ⟨?_, he l f w hR hall⟩
    refine List.eq_nil_iff_forall_not_mem.2 fun i hi => ?_
    obtain ⟨o, ho, hn, _⟩ := ready_iff hz hi
    exact hn (hall i (Array.getElem?_eq_some_iff.1 ho).1)
  | succ fuel ih =>
    intro l f w hz hc hR
    refine ⟨fun hr => he l f w hR (ready_nil hz ht hr), fun i hi => ?_⟩
    obtain ⟨o, ho, hn, hb⟩ := ready_iff hz hi
    have hlt := (Array.getElem?_eq_some_iff.1 ho).1
    obtain ⟨hd, hw⟩ := hs i (List.mem_range.2 hlt) o ho l f w hR hn hb
    refine wpOpIn_mono (fun a' w' h => ?_) hw
    obtain ⟨v, rfl, hR'⟩ := h
    have hl' : l.toList[i]? = some false := by
      have h2 : i < l.size := by omega
      unfold Lst at hn
      simp [Array.getD, h2] at hn
      simp [h2, hn]
    have hc' : (l.setIfInBounds i true).toList.count false ≤ fuel := by
      rw [Array.toList_setIfInBounds]
      have := count_set l.toList i hl'
      omega
    cases hdst : o.dst with
    | none =>
      rw [hdst] at hR'
      rw [put_none]
      have : upd f none v = f := by funext k; simp [upd]
      rw [this] at hR'
      exact ih _ f w' (by simpa using hz) hc' hR'
    | some d =>
      rw [hdst] at hR'
      rw [putF_put a f d v sl hnd (hd d hdst)]
      exact ih _ _ w' (by simpa using hz) hc' hR'


/-- what an operation owes -/
def StepF (F : Fence) (n : Nat) (P : Program) (ops : Array Oper) (Q : Exit → Act → World → Prop) (R : Array Bool → (Nat → Value) → World → Prop) (a : Act) (sl : List Nat) (i : Nat) (o : Oper) : Prop :=
  (∀ d, o.dst = some d → d ∈ sl) ∧ ∀ l f w, R l f w → ¬ Lst l i → (∀ j ∈ befores o, Lst l j) → ∀ K : Act → World → Prop, Hid (∀ v w', R (l.setIfInBounds i true) (upd f o.dst v) w' → K ((putF a sl f).put o.dst v) w') →
    if Region.wanted o (yielded ops (putF a sl f).tmps) = true then Oper.wpIn F n P o (putF a sl f) w K Q else (∀ f', o.about P w (putF a sl f).eval = some f' → F.fn f') ∧ K ((putF a sl f).put o.dst undef) w
theorem StepF.plain {R : Array Bool → (Nat → Value) → World → Prop} {a : Act} {sl : List Nat} {i : Nat} {o : Oper} (bs : List Nat) (hb : befores o = bs) (hg : o.guard = none) (hd : ∀ d, o.dst = some d → d ∈ sl)
    (h : ∀ l f w, R l f w → ¬ Lst l i → (∀ j ∈ bs, Lst l j) → ∀ K : Act → World → Prop, Hid (∀ v w', R (l.setIfInBounds i true) (upd f o.dst v) w' → K ((putF a sl f).put o.dst v) w') → Cov (Oper.wpIn F n P o (putF a sl f) w K Q)) : StepF F n P ops Q R a sl i o := by
  subst hb
  refine ⟨hd, fun l f w hR hn hb K hK => ?_⟩
  rw [if_pos (by simp [Region.wanted, hg])]
  exact (h l f w hR hn hb K hK).out
/-- wanted, as its guard's slot tells -/
theorem StepF.wanted {R : Array Bool → (Nat → Value) → World → Prop} {a : Act} {sl : List Nat} {i : Nat} {o : Oper} (bs : List Nat) (hb : befores o = bs) (hd : ∀ d, o.dst = some d → d ∈ sl)
    (h : ∀ l f w, R l f w → ¬ Lst l i → (∀ j ∈ bs, Lst l j) → Region.wanted o (yielded ops (putF a sl f).tmps) = true ∧ ∀ K : Act → World → Prop, Hid (∀ v w', R (l.setIfInBounds i true) (upd f o.dst v) w' → K ((putF a sl f).put o.dst v) w') → Cov (Oper.wpIn F n P o (putF a sl f) w K Q)) : StepF F n P ops Q R a sl i o := by
  subst hb
  refine ⟨hd, fun l f w hR hn hb K hK => ?_⟩
  obtain ⟨hw, h2⟩ := h l f w hR hn hb
  rw [if_pos hw]
  exact (h2 K hK).out
/-- passed over, as its guard's slot tells -/
theorem StepF.skipped {R : Array Bool → (Nat → Value) → World → Prop} {a : Act} {sl : List Nat} {i : Nat} {o : Oper} (bs : List Nat) (hb : befores o = bs) (hd : ∀ d, o.dst = some d → d ∈ sl) (hF : ∀ f, F.fn f)
    (h : ∀ l f w, R l f w → ¬ Lst l i → (∀ j ∈ bs, Lst l j) → Region.wanted o (yielded ops (putF a sl f).tmps) = false ∧ R (l.setIfInBounds i true) (upd f o.dst undef) w) : StepF F n P ops Q R a sl i o := by
  subst hb
  refine ⟨hd, fun l f w hR hn hb K hK => ?_⟩
  obtain ⟨hw, h2⟩ := h l f w hR hn hb
  rw [if_neg (by rw [hw]; decide)]
  exact ⟨fun f' _ => hF f', hK.out _ _ h2⟩
/-- the list's operations from place i on -/
def StepsF (F : Fence) (n : Nat) (P : Program) (ops : Array Oper) (Q : Exit → Act → World → Prop) (R : Array Bool → (Nat → Value) → World → Prop) (a : Act) (sl : List Nat) : Nat → List Oper → Prop
  | _, [] => True
  | i, o :: rest => StepF F n P ops Q R a sl i o ∧ StepsF F n P ops Q R a sl (i + 1) rest
theorem StepsF.nil {R : Array Bool → (Nat → Value) → World → Prop} {a : Act} {sl : List Nat} {i : Nat} : StepsF F n P ops Q R a sl i [] := trivial
theorem StepsF.cons {R : Array Bool → (Nat → Value) → World → Prop} {a : Act} {sl : List Nat} {i : Nat} {o : Oper} {rest : List Oper} (i' : Nat) (hi : i + 1 = i') (h : StepF F n P ops Q R a sl i o) (hs : StepsF F n P ops Q R a sl i' rest) : StepsF F n P ops Q R a sl i (o :: rest) := by
  subst hi; exact ⟨h, hs⟩
theorem StepsF.at {R : Array Bool → (Nat → Value) → World → Prop} {a : Act} {sl : List Nat} : ∀ (rest : List Oper) (i : Nat), StepsF F n P ops Q R a sl i rest → ∀ j o, rest[j]? = some o → StepF F n P ops Q R a sl (i + j) o := by
  intro rest
  induction rest with
  | nil => intro i _ j o h; simp at h
  | cons x rest ih =>
    intro i hs j o h
    cases j with
    | zero => simp at h; subst h; exact hs.1
    | succ j =>
      have := ih (i + 1) hs.2 j o (by simpa using h)
      rw [show i + (j + 1) = i + 1 + j by omega]
      exact this

theorem wpIn_region_inv {id : Nat} {a : Act} {w : World} {lo : List Oper} (sl : List Nat) (R : Array Bool → (Nat → Value) → World → Prop) (hm : P.follows .mixedOrders = true) (hnd : sl.Nodup) (ht : topoB lo.toArray = true) (hsz : ∀ s ∈ sl, s < a.tmps.size)
    (h0 : ∀ l, l.size = lo.length → (∀ i, ¬ Lst l i) → R l (fun s => a.tmps.getD s undef) w.drew) (hs : StepsF F n P lo.toArray Q R a sl 0 lo)
    (he : ∀ l f w, R l f w → (∀ i, i < lo.length → Lst l i) → Q .normal (putF a sl f) w) : (Code.region id lo.toArray true).wpIn F n P Q a w := by
  refine wpIn_region_any hm ?_
  have hS : StepsFI F n P lo.toArray Q R a sl (List.range lo.toArray.size) := by
    intro i hi o ho l f w hR hn hb
    have ho' : lo[i]? = some o := by simpa using ho
    obtain ⟨hd, h⟩ := StepsF.at lo 0 hs i o ho'
    rw [Nat.zero_add] at h
    exact ⟨hd, wpOpIn_step ho (fun K' hK => h l f w hR hn hb K' (Lib.hid fun v w' hR' => hK _ _ ⟨v, rfl, hR'⟩))⟩
  have h := wpAnyIn_inv (F := F) (n := n) (P := P) (Q := Q) hnd ht hS (fun l f w hR hall => he l f w hR fun i hi => hall i (by simpa using hi)) lo.toArray.size (Array.replicate lo.toArray.size false) (fun s => a.tmps.getD s undef) w.drew (by simp) (by simp) (h0 _ (by simp) fun i => by unfold Lst; rw [Array.getD_eq_getD_getElem?, Array.getElem?_replicate]; split <;> simp)
  rw [putF_self a sl hsz] at h
  exact h
end
end Go.Proofs.Ytinlmkhlgclbfab
end

section
namespace Go.Proofs.Ytinlmkhlgclbfab
open Go.RowKit
set_option maxRecDepth 100000
set_option maxHeartbeats 400000

theorem tyJob : TyS Try.prog 40 110 (.agg #[.int .i64 0, .int .i64 0, .int .i64 0, .int .i64 0, .bool false, .bool false]) 6 40 := ⟨Try.underlying40, info_of (by kernel_rfl), rfl, by decide⟩

theorem cloneJob (xs : List TJob) (A : Option Addr) (c : Nat) (B : Nat) (w : World) (hB : B ≤ w.heap.size) (hs : Sl cJob (Low B) w A c xs) (hb : xs.length * 40 ≤ 140737488355328) :
    Calls Try.prog 100 #[.slice A xs.length c] w (RetRow 110 6 xs.length (xs.flatMap TJob.cells) w) := by
  have hm : xs.length ≤ maxLen := Nat.le_trans hs.cap hs.max
  cases A with
  | none =>
    have h0 : xs = [] := List.eq_nil_of_length_eq_zero (by have := hs.nil rfl; have := hs.cap; omega)
    subst h0
    have hq := fun w => Lib.run_eql_slice_nil (P := Try.prog) w 40 110 none 0 c 0 0 Try.underlying40
    go_enter Try.func100, Try.ntmps100
    go_wp2
    go_ret
    exact ⟨_, _, rfl, World.ownsRow_nil _ _ _ _, Below.refl _ _⟩
  | some ad =>
    have hq := fun w => Lib.run_eql_slice_nil (P := Try.prog) w 40 110 (some ad) xs.length c 0 0 Try.underlying40
    have hsrc1 := Lib.hid ((hs.next hB (w' := w.alloc (.cells #[] 110)) byB).src (f := TJob.cells))
    clear hs
    have ho := World.ownsRow_made w (base := w.heap.size) (e := 110) (size := 6) #[] 0 (Nat.le_refl _) (by unfold maxLen; omega) rfl
    go_enter Try.func100, Try.ntmps100
    go_wp2_with (at_builtin; refine wpList_app rfl (.tmp 5) (.tmp 6) _ rfl w.heap.size tyJob _ 0 [] (by rfl) ho (some ad) xs.length c (xs.flatMap TJob.cells) (by rfl) hsrc1.out (one_job _) ?_ ?_ ?_ ?_; (omega); (omega); (simp); intro A1 c1 w1 hown1 hg1 hat1)
    go_ret
    simp only [Nat.zero_add, List.nil_append] at hown1
    exact ⟨A1, c1, by simp, hown1, grown_below byB (by simp) ho hg1⟩
end Go.Proofs.Ytinlmkhlgclbfab
end

section
namespace Go.Proofs.Ytinlmkhlgclbfab
open Go.RowKit
set_option maxRecDepth 100000
set_option maxHeartbeats 400000

theorem tyEv : TyS Try.prog 43 84 (.agg #[.int .i64 0, .int .i64 0, .int .i64 0, .int .i64 0]) 4 32 := ⟨Try.underlying43, info_of (by kernel_rfl), rfl, by decide⟩

theorem cloneEv (xs : List TEv) (A : Option Addr) (c : Nat) (B : Nat) (w : World) (hB : B ≤ w.heap.size) (hs : Sl cEv (Low B) w A c xs) (hb : xs.length * 32 ≤ 140737488355328) :
    Calls Try.prog 102 #[.slice A xs.length c] w (RetRow 84 4 xs.length (xs.flatMap TEv.cells) w) := by
  have hm : xs.length ≤ maxLen := Nat.le_trans hs.cap hs.max
  cases A with
  | none =>
    have h0 : xs = [] := List.eq_nil_of_length_eq_zero (by have := hs.nil rfl; have := hs.cap; omega)
    subst h0
    have hq := fun w => Lib.run_eql_slice_nil (P := Try.prog) w 43 84 none 0 c 0 0 Try.underlying43
    go_enter Try.func102, Try.ntmps102
    go_wp2
    go_ret
    exact ⟨_, _, rfl, World.ownsRow_nil _ _ _ _, Below.refl _ _⟩
  | some ad =>
    have hq := fun w => Lib.run_eql_slice_nil (P := Try.prog) w 43 84 (some ad) xs.length c 0 0 Try.underlying43
    have hsrc1 := Lib.hid ((hs.next hB (w' := w.alloc (.cells #[] 84)) byB).src (f := TEv.cells))
    clear hs
    have ho := World.ownsRow_made w (base := w.heap.size) (e := 84) (size := 4) #[] 0 (Nat.le_refl _) (by unfold maxLen; omega) rfl
    go_enter Try.func102, Try.ntmps102
    go_wp2_with (at_builtin; refine wpList_app rfl (.tmp 5) (.tmp 6) _ rfl w.heap.size tyEv _ 0 [] (by rfl) ho (some ad) xs.length c (xs.flatMap TEv.cells) (by rfl) hsrc1.out (one_ev _) ?_ ?_ ?_ ?_; (omega); (omega); (simp); intro A1 c1 w1 hown1 hg1 hat1)
    go_ret
    simp only [Nat.zero_add, List.nil_append] at hown1
    exact ⟨A1, c1, by simp, hown1, grown_below byB (by simp) ho hg1⟩
end Go.Proofs.Ytinlmkhlgclbfab
end

section
namespace Go.Proofs.Ytinlmkhlgclbfab
open Go.RowKit
set_option maxRecDepth 100000
set_option maxHeartbeats 400000

theorem tyWay : TyS Try.prog 124 126 (.agg #[.int .i64 0, .bool false]) 2 16 := ⟨Try.underlying124, info_of (by kernel_rfl), rfl, by decide⟩

theorem cloneWay (xs : List TWay) (A : Option Addr) (c : Nat) (B : Nat) (w : World) (hB : B ≤ w.heap.size) (hs : Sl cWay (Low B) w A c xs) (hb : xs.length * 16 ≤ 140737488355328) :
    Calls Try.prog 112 #[.slice A xs.length c] w (RetRow 126 2 xs.length (xs.flatMap TWay.cells) w) := by
  have hm : xs.length ≤ maxLen := Nat.le_trans hs.cap hs.max
  cases A with
  | none =>
    have h0 : xs = [] := List.eq_nil_of_length_eq_zero (by have := hs.nil rfl; have := hs.cap; omega)
    subst h0
    have hq := fun w => Lib.run_eql_slice_nil (P := Try.prog) w 124 126 none 0 c 0 0 Try.underlying124
    go_enter Try.func112, Try.ntmps112
    go_wp2
    go_ret
    exact ⟨_, _, rfl, World.ownsRow_nil _ _ _ _, Below.refl _ _⟩
  | some ad =>
    have hq := fun w => Lib.run_eql_slice_nil (P := Try.prog) w 124 126 (some ad) xs.length c 0 0 Try.underlying124
    have hsrc1 := Lib.hid ((hs.next hB (w' := w.alloc (.cells #[] 126)) byB).src (f := TWay.cells))
    clear hs
    have ho := World.ownsRow_made w (base := w.heap.size) (e := 126) (size := 2) #[] 0 (Nat.le_refl _) (by unfold maxLen; omega) rfl
    go_enter Try.func112, Try.ntmps112
    go_wp2_with (at_builtin; refine wpList_app rfl (.tmp 5) (.tmp 6) _ rfl w.heap.size tyWay _ 0 [] (by rfl) ho (some ad) xs.length c (xs.flatMap TWay.cells) (by rfl) hsrc1.out (one_way _) ?_ ?_ ?_ ?_; (omega); (omega); (simp); intro A1 c1 w1 hown1 hg1 hat1)
    go_ret
    simp only [Nat.zero_add, List.nil_append] at hown1
    exact ⟨A1, c1, by simp, hown1, grown_below byB (by simp) ho hg1⟩
end Go.Proofs.Ytinlmkhlgclbfab
end

section
namespace Go.Proofs.Ytinlmkhlgclbfab
open Go.RowKit
set_option maxRecDepth 100000
set_option maxHeartbeats 400000

def oWay : OCod TWay := .flat 2 TWay.cells (fun _ => rfl)
/-- a cache's sets, owned -/
def OCache (F : Nat → Prop) (w : World) (v : Value) (c : List (List TWay)) : Prop := OSl (OCod.slice 126 oWay) 124 F w v c
theorem tyWays : TyS Try.prog 61 124 (.slice none 0 0) 1 24 := ⟨Try.underlying61, info_of (by kernel_rfl), rfl, by decide⟩
def RetCache (c : List (List TWay)) (w : World) (en : Ending) (w' : World) : Prop := ∃ A n, en = .returned (.agg #[.slice A c.length n]) ∧ OCache (Rng w.heap.size w'.heap.size) w' (.slice A c.length n) c ∧ Below w.heap.size w w'

theorem take_snoc {T : Type} [Inhabited T] {xs : List T} {k : Nat} (h : k < xs.length) : xs.take (k + 1) = xs.take k ++ [nth xs k] := by
  rw [List.take_succ_eq_append_getElem h, nth_eq h]
theorem len_take {T : Type} {xs : List T} {k : Nat} (h : k ≤ xs.length) : (xs.take k).length = k := by rw [List.length_take]; omega

theorem cacheOwn (c : List (List TWay)) (A : Option Addr) (n B : Nat) (w : World) (hB : B ≤ w.heap.size) (hs : Sl cWay.slice (Low B) w A n c) (hl : c.length ≤ 1000000000000) (hl2 : ∀ i, i < c.length → (nth c i).length ≤ 1000000000000) :
    Calls Try.prog 65 #[.agg #[.slice A c.length n]] w (RetCache c w) := by
  go_enter Try.func65, Try.ntmps65
  go_wp2_with fail
  go_loopw [9] (fun iv wr => ∃ (k : Nat) (A1 : Option Addr) (c1 : Nat), k ≤ c.length ∧ iv = .int .i64 k ∧ wr.heap[w.heap.size + 1]? = some (.cells #[.slice none 0 0] 63) ∧ wr.heap[w.heap.size + 2]? = some (.cells #[.slice A1 k c1] 63) ∧
    OCache (Rng (w.heap.size + 3) wr.heap.size) wr (.slice A1 k c1) (c.take k) ∧ Below w.heap.size w wr) (fun iv _ => c.length - (intOf iv).toNat)
  case atStart => exact ⟨0, none, 0, Nat.zero_le _, rfl, byH, byH, OSl.nil _ _ _ _, byB⟩
  case round =>
    obtain ⟨k, A1, c1, hk, rfl, hr, ho, hO, hbw⟩ := hrel
    obtain ⟨cr, fr, zr⟩ := blk hr
    obtain ⟨co, fo, zo⟩ := blk ho
    have hsz := hbw.size
    by_cases hlt : k < c.length
    · obtain ⟨b, o, A', c', rfl, hI, hcell, hin⟩ := (hs.next hB hbw).at_slice hlt
      have hl3 := hl2 k hlt
      have HC := Lib.hid (fun W (h : Below wr.heap.size wr W) => cloneWay (nth c k) A' c' wr.heap.size W h.size ((hin.next (Nat.le_trans hB hsz) h).up (Nat.le_trans hB hsz)) (by omega))
      obtain ⟨ess, G, e1, e2, e3, e4, e5, e6⟩ := hO
      rw [len_take hk] at e1 e2
      have hlo : ∀ b, (Value.slice A1 k c1).ownBlock = some b → w.heap.size + 3 ≤ b := fun b hb => (e3 b hb).1
      have hk0 : (0 : Int) ≤ k := by omega
      have hk1 : (k : Int) < c.length := by omega
      clear hs hin
      go_wp2_with fail
      have hcO : wr.cell? ⟨w.heap.size + 2, 0, none⟩ = some (.slice A1 k c1) := (co 0).trans rfl
      go_region_law
        (first | (go_simp; (go_at_call 112; refine (HC.out _ byB).mono ?_; rintro e w1 ⟨A2, c2, rfl, hown2, hb_w1⟩; refine have_then (P := w1.heap[w.heap.size + 1]? = some (.cells #[.slice none 0 0] 63)) ((hb_w1.block _ byS).trans byH) (fun r_w1 => ?_); obtain ⟨cr_w1, fr_w1, zr_w1⟩ := blk r_w1; refine have_then (P := w1.heap[w.heap.size + 2]? = some (.cells #[.slice A1 k c1] 63)) ((hb_w1.block _ byS).trans byH) (fun o_w1 => ?_); obtain ⟨co_w1, fo_w1, zo_w1⟩ := blk o_w1; refine have_then (P := Below w.heap.size w w1) byB (fun h_w1 => ?_); have s_w1 := Below.size h_w1; have t_w1 := Below.size hb_w1; (try simp at t_w1); revert hb_w1; intro hb_w1); have e2w : w1.ownsRow 0 124 1 (.slice A1 k c1) k ess.flatten := own_keep e2 fun b hb => (show KeepI (Rng (w.heap.size + 3) wr.heap.size) wr w1 from byI) b (e3 b hb); try dsimp only) | (refine step_app ?_ (.tmp 14) (.tmp 17) _ ?_ 0 tyWays (.slice A1 k c1) k ess.flatten ?_ ?_ (some ⟨w1.heap.size, 0, none⟩) 1 1 [.slice A2 (nth c k).length c2] ?_ ?_ (one_one rfl) ?_ ?_ ?_ ?_; rfl; rfl; rfl; exact (by repeat (first | with_reducible exact e2w | (with_reducible refine World.ownsRow.alloc ?_ _) | (with_reducible refine own_drew ?_) | (with_reducible refine own_drewN ?_ _))); rfl; exact (src_new rfl rfl); (first | (unfold maxLen; omega) | (simp only [maxLen]; omega)); (omega); (exact Nat.zero_le _); intro A3 c3 w3 hown3 hg_w3 hat_w3; refine have_then (P := w3.heap[w.heap.size + 1]? = some (.cells #[.slice none 0 0] 63)) ?_ (fun r_w3 => ?_); (focus (refine (hg_w3.block _ ?_ ?_).trans ?_; (first | omega | (simp <;> omega)); (intro e; have hlt := hlo _ e.symm; omega); exact byH; done)); obtain ⟨cr_w3, fr_w3, zr_w3⟩ := blk r_w3; refine have_then (P := w3.heap[w.heap.size + 2]? = some (.cells #[.slice A1 k c1] 63)) ?_ (fun o_w3 => ?_); (focus (refine (hg_w3.block _ ?_ ?_).trans ?_; (first | omega | (simp <;> omega)); (intro e; have hlt := hlo _ e.symm; omega); exact byH; done)); obtain ⟨co_w3, fo_w3, zo_w3⟩ := blk o_w3; refine have_then (P := Below w.heap.size w w3) ?_ (fun h_w3 => ?_); (focus (refine Below.grown ?_ hg_w3 ?_ ?_; (focus (exact byB; done)); (first | exact Nat.le_refl _ | exact Below.size (by assumption) | omega | (simp <;> omega)); (intro kk hkk; have hlt := hlo _ hkk; omega); done)); have s_w3 := Below.size h_w3; have t_w3 := hg_w3.size; (try simp at t_w3)))
      all_goals
        go_wp2_with fail
        go_roundw
        case rel =>
          have hn2 := own_mono (base' := 0) hown2 (Nat.zero_le _)
          refine ⟨k + 1, A3, c3, by omega, by go_num, byH, ?_, ?_, byB⟩
          · have := heap_set_same (i := 0) (u := .slice A3 (k + 1) c3) o_w3
            simpa using this
          · unfold OCache
            rw [take_snoc hlt]
            have hl1 : (c.take k).length = k := len_take hk
            refine osl_step (F := Rng (w.heap.size + 3) wr.heap.size) (Fx := Rng wr.heap.size w1.heap.size) (es := [.slice A2 (nth c k).length c2]) (by rw [hl1]; exact e1) e4 e5 e6 e3 hg_w3 hat_w3 (by rw [hl1]; exact hown3) ⟨_, rfl, osl_flat.2 ⟨(by repeat (first | with_reducible exact hn2 | (with_reducible refine World.ownsRow.alloc ?_ _) | (with_reducible refine own_drew ?_) | (with_reducible refine own_drewN ?_ _))), ?_⟩⟩ byI ?_ ?_ ?_ ?_ ?_
            · intro b hb
              exact World.ownsRow.lt hown2 b hb
            · intro b hb hb'; simp only [Rng] at hb hb'; omega
            · intro b hb; simp only [Rng] at hb; simp; omega
            · intro b hb; simp only [Rng] at hb ⊢; simp; omega
            · intro b hb hb'; simp only [Rng]; simp at hb ⊢; omega
            · exact byI
        case measure => simp [intOf]; omega
    · obtain rfl : k = c.length := by omega
      rw [List.take_length] at hO
      go_wp2_with fail
      refine bodyPost_ret (v := .agg #[.slice A1 c.length c1]) (by simp [results, Try.results65, go_sem, *]) rfl ?_
      refine ⟨A1, c1, rfl, OSl.mono (OSl.keepI hO byI) ?_, byB⟩
      · intro b hb; simp only [Rng] at hb ⊢; simp; omega

theorem nth_replicate {T : Type} [Inhabited T] {n k : Nat} {x : T} (h : k < n) : nth (List.replicate n x) k = x := by
  rw [nth_eq (by simpa using h)]; simp
def emptySet (ways : Nat) : List TWay := List.replicate ways ⟨0, false⟩

theorem cacheEmpty (sets ways : Nat) (w : World) (h1 : sets ≤ 1000000000000) (h2 : ways ≤ 1000000000000) :
    Calls Try.prog 114 #[.int .i64 sets, .int .i64 ways] w (RetCache (emptyCache sets ways) w) := by
  have hmk := make_run tyWay ways (by omega) (by omega)
  have hlen : (emptyCache sets ways).length = sets := by simp [emptyCache]
  have HL := Lib.hid hlen
  clear hlen
  generalize hc : emptyCache sets ways = c at *
  have HC := Lib.hid (show ∀ k, k < sets → nth c k = emptySet ways by intro k hk; rw [← hc]; exact nth_replicate hk)
  clear hc
  go_enter Try.func114, Try.ntmps114
  go_wp2_with fail
  go_loopw [7] (fun iv wr => ∃ (k : Nat) (A1 : Option Addr) (c1 : Nat), k ≤ sets ∧ iv = .int .i64 k ∧ wr.heap[w.heap.size]? = some (.cells #[.slice none 0 0] 63) ∧ wr.heap[w.heap.size + 1]? = some (.cells #[.slice A1 k c1] 63) ∧
    OCache (Rng (w.heap.size + 2) wr.heap.size) wr (.slice A1 k c1) (c.take k) ∧ Below w.heap.size w wr) (fun iv _ => sets - (intOf iv).toNat)
  case atStart => exact ⟨0, none, 0, Nat.zero_le _, rfl, byH, byH, OSl.nil _ _ _ _, byB⟩
  case round =>
    obtain ⟨k, A1, c1, hk, rfl, hr, ho, hO, hbw⟩ := hrel
    obtain ⟨cr, fr, zr⟩ := blk hr
    obtain ⟨co, fo, zo⟩ := blk ho
    have hsz := hbw.size
    by_cases hlt : k < sets
    · obtain ⟨ess, G, e1, e2, e3, e4, e5, e6⟩ := hO
      have hkl : k ≤ c.length := by rw [HL.out]; exact hk
      rw [len_take hkl] at e1 e2
      have e2 : wr.ownsRow 0 124 1 (.slice A1 k c1) k ess.flatten := e2
      have hlo : ∀ b, (Value.slice A1 k c1).ownBlock = some b → w.heap.size + 2 ≤ b := fun b hb => (e3 b hb).1
      have hk0 : (0 : Int) ≤ k := by omega
      have hk1 : (k : Int) < sets := by omega
      have HM := Lib.hid (made_own tyWay ways (by omega))
      go_wp2_with fail
      go_region_law
        (first | (refine step_app ?_ (.tmp 10) (.tmp 13) _ ?_ 0 tyWays (.slice A1 k c1) k ess.flatten ?_ ?_ (some ⟨wr.heap.size + 1, 0, none⟩) 1 1 [.slice (some ⟨wr.heap.size, 0, none⟩) ways ways] ?_ ?_ (one_one rfl) ?_ ?_ ?_ ?_; rfl; rfl; rfl; exact (by repeat (first | with_reducible exact e2 | (with_reducible refine World.ownsRow.alloc ?_ _) | (with_reducible refine own_drew ?_) | (with_reducible refine own_drewN ?_ _))); rfl; exact (src_new (by simp) rfl); (first | (unfold maxLen; omega) | (simp only [maxLen]; omega)); (omega); (exact Nat.zero_le _); intro A3 c3 w3 hown3 hg_w3 hat_w3; refine have_then (P := w3.heap[w.heap.size]? = some (.cells #[.slice none 0 0] 63)) ?_ (fun r_w3 => ?_); (focus (refine (hg_w3.block _ ?_ ?_).trans ?_; (first | omega | (simp <;> omega)); (intro e; have hlt := hlo _ e.symm; omega); exact byH; done)); obtain ⟨cr_w3, fr_w3, zr_w3⟩ := blk r_w3; refine have_then (P := w3.heap[w.heap.size + 1]? = some (.cells #[.slice A1 k c1] 63)) ?_ (fun o_w3 => ?_); (focus (refine (hg_w3.block _ ?_ ?_).trans ?_; (first | omega | (simp <;> omega)); (intro e; have hlt := hlo _ e.symm; omega); exact byH; done)); obtain ⟨co_w3, fo_w3, zo_w3⟩ := blk o_w3; refine have_then (P := Below w.heap.size w w3) ?_ (fun h_w3 => ?_); (focus (refine Below.grown ?_ hg_w3 ?_ ?_; (focus (exact byB; done)); (first | exact Nat.le_refl _ | exact Below.size (by assumption) | omega | (simp <;> omega)); (intro kk hkk; have hlt := hlo _ hkk; omega); done)); have s_w3 := Below.size h_w3; have t_w3 := hg_w3.size; (try simp at t_w3)))
      all_goals
        go_wp2_with fail
        go_roundw
        case rel =>
          refine ⟨k + 1, A3, c3, by omega, by go_num, byH, ?_, ?_, byB⟩
          · have := heap_set_same (i := 0) (u := .slice A3 (k + 1) c3) o_w3
            simpa using this
          · unfold OCache
            have hlc : k < c.length := by rw [HL.out]; exact hlt
            rw [take_snoc hlc, HC.out k hlt]
            have hl1 : (c.take k).length = k := len_take hkl
            refine osl_step (F := Rng (w.heap.size + 2) wr.heap.size) (Fx := Rng wr.heap.size (wr.heap.size + 1)) (es := [.slice (some ⟨wr.heap.size, 0, none⟩) ways ways]) (by rw [hl1]; exact e1) e4 e5 e6 e3 hg_w3 hat_w3 (by rw [hl1]; exact hown3) ⟨.slice (some ⟨wr.heap.size, 0, none⟩) ways ways, rfl, osl_flat.2 ⟨?_, ?_⟩⟩ byI ?_ ?_ ?_ ?_ ?_
            · have := HM.out wr.drew wr.heap.size rfl
              rw [show (emptySet ways).length = ways by simp [emptySet]]
              unfold emptySet
              rw [replicate_flatMap]
              exact World.ownsRow.alloc this _
            · intro b hb; simp [Value.ownBlock] at hb; simp only [Rng]; omega
            · intro b hb hb'; simp only [Rng] at hb hb'; omega
            · intro b hb; simp only [Rng] at hb; simp; omega
            · intro b hb; simp only [Rng] at hb ⊢; simp; omega
            · intro b hb hb'; simp only [Rng]; simp at hb ⊢; omega
            · exact byI
        case measure => simp [intOf]; omega
    · obtain rfl : k = sets := by omega
      have hO : OCache (Rng (w.heap.size + 2) wr.heap.size) wr (.slice A1 k c1) c := by rw [← HL.out, List.take_length, HL.out] at hO; exact hO
      go_wp2_with fail
      refine bodyPost_ret (v := .agg #[.slice A1 k c1]) (by simp [results, Try.results114, go_sem, *]) rfl ?_
      refine ⟨A1, c1, by rw [HL.out], OSl.mono (OSl.keepI (by rw [HL.out]; exact hO) byI) ?_, byB⟩
      · intro b hb; simp only [Rng] at hb ⊢; simp; omega
end Go.Proofs.Ytinlmkhlgclbfab
end
