/- WinP IdxWay IdxWays -/
import Derived.Test.YtinlmkhlgclbfabWwA03
import Derived.Test.YtinlmkhlgclbfabWwA05
import Derived.Test.YtinlmkhlgclbfabWwA06
import Derived.Test.YtinlmkhlgclbfabProg
section
namespace Go.Proofs.Ytinlmkhlgclbfab
open Go.RowKit

/-- E1: is an action right? -/
def actN (a : TAct) : Bool := if a.kind = 1 then inB 1 a.n 200 else if a.kind = 2 ∨ a.kind = 3 then inB 1 a.n 1000 else if a.kind = 4 ∨ a.kind = 5 ∨ a.kind = 7 then decide (0 ≤ a.n) else true
def actErr (a : TAct) : Int :=
  if !inB 1 a.kind 8 then 7
  else if !actN a ∨ (a.kind = 4 ∧ inB 0 a.value 255 = false) then 3
  else if (a.kind ≠ 4 ∧ a.value ≠ 0) ∨ ((a.kind = 6 ∨ a.kind = 8) ∧ a.n ≠ 0) then 1 else 0
def worstA (a : TAct) : Int := if a.kind = 1 then a.n else if a.kind = 2 ∨ a.kind = 3 then 15 else 3
def actsErr (l : List TAct) : Int := if 60 < l.length then 2 else firstE l.length fun i => actErr (nth l i)
structure ActOk (a : TAct) : Prop where
  kind : 1 ≤ a.kind ∧ a.kind ≤ 8
  comp : a.kind = 1 → 1 ≤ a.n ∧ a.n ≤ 200
  line : a.kind = 2 ∨ a.kind = 3 → 1 ≤ a.n ∧ a.n ≤ 1000
  name : a.kind = 4 ∨ a.kind = 5 ∨ a.kind = 7 → 0 ≤ a.n
  none : a.kind = 6 ∨ a.kind = 8 → a.n = 0
  val : a.kind = 4 → 0 ≤ a.value ∧ a.value ≤ 255
  noval : a.kind ≠ 4 → a.value = 0
theorem actErr_zero {a : TAct} : actErr a = 0 ↔ ActOk a := by
  unfold actErr actN
  constructor
  · intro h
    rw [ite_zero (by omega), ite_zero (by omega), ite_zero (by omega)] at h
    simp only [Bool.not_eq_true', Bool.not_eq_false, inB_true, not_or, not_and, and_true, ne_eq, Decidable.not_not] at h
    obtain ⟨h1, ⟨h2, h3⟩, h4, h5⟩ := h
    refine ⟨h1, fun e => ?_, fun e => ?_, fun e => ?_, fun e => h5 e, fun e => ?_, fun e => h4 e⟩
    · rw [if_pos e, inB_true] at h2; exact h2
    · rw [if_neg (by omega), if_pos e, inB_true] at h2; exact h2
    · rw [if_neg (by omega), if_neg (by omega), if_pos e] at h2; simpa using h2
    · simpa using h3 e
  · intro h
    rw [ite_zero (by omega), ite_zero (by omega), ite_zero (by omega)]
    simp only [Bool.not_eq_true', Bool.not_eq_false, inB_true, not_or, not_and, and_true, ne_eq, Decidable.not_not]
    refine ⟨h.kind, ⟨?_, fun e => ?_⟩, fun e => h.noval e, fun e => h.none e⟩
    · split
      · rename_i e; rw [inB_true]; exact h.comp e
      · split
        · rename_i e; rw [inB_true]; exact h.line e
        · split
          · rename_i e; simpa using h.name e
          · rfl
    · simpa using h.val e
theorem worstA_bd {a : TAct} (h : ActOk a) : 1 ≤ worstA a ∧ worstA a ≤ 200 := by
  unfold worstA
  have := h.comp
  split
  · exact this (by assumption)
  · split <;> omega

/-- what an action costs, and what it makes of the cache -/
def isMem (a : TAct) : Bool := decide (a.kind = 2) || decide (a.kind = 3)
def spendN (k : List (List TWay)) (a : TAct) : Int := if isMem a then accessCost k a.n else worstA a
def spendK (k : List (List TWay)) (a : TAct) : List (List TWay) := if isMem a then accessOf k a.n (decide (a.kind = 3)) else k

/-- E2: is it refused? -/
def refusedA (c : TCfg) (dom : Int) (a : TAct) : Bool :=
  if a.kind = 4 then decide ((c.chans.length : Int) ≤ a.n) || decide ((nth c.chans a.n.toNat).src ≠ dom)
  else if a.kind = 5 then decide ((c.chans.length : Int) ≤ a.n) || decide ((nth c.chans a.n.toNat).dst ≠ dom)
  else if a.kind = 7 then decide ((c.owners.length : Int) ≤ a.n) || decide (nth c.owners a.n.toNat ≠ dom)
  else false
def tellOf (d : TDom) (t kind a b : Int) : TDom := { d with events := d.events ++ [⟨t, kind, a, b⟩] }
def takeR (r : TRing) : TRing := ⟨restOf r.vals, r.lost⟩
/-- what it does, when it is done -/
def happenA (c : TCfg) (now : Int) (a : TAct) (cost : Int) (d : TDom) : TDom :=
  if a.kind ≤ 3 then tellOf d now 11 cost 0
  else if a.kind = 4 then tellOf { d with outs := d.outs.set a.n.toNat (nth d.outs a.n.toNat ++ [a.value]) } now 9 a.n 0
  else if a.kind = 5 then tellOf { d with ins := d.ins.set a.n.toNat (takeR (nth d.ins a.n.toNat)) } now 8 a.n (takeV (nth d.ins a.n.toNat).vals)
  else if a.kind = 6 then tellOf d now 7 (now - now % c.quantum) 0
  else if a.kind = 7 then { tellOf d now 10 a.n (nth d.taken a.n.toNat) with taken := d.taken.set a.n.toNat 0 }
  else d
/-- the job's first cycle -/
def startJ (now : Int) (i : Nat) (d : TDom) : TDom :=
  if (nth d.jobs i).ran then d else tellOf { d with jobs := d.jobs.set i { nth d.jobs i with ran := true } } now 3 (nth d.jobs i).task (nth d.jobs i).number
def usedJ (cost : Int) (i : Nat) (d : TDom) : TDom := { d with jobs := d.jobs.set i { nth d.jobs i with used := (nth d.jobs i).used + cost }, next := d.next + 1 }
def overA (c : TCfg) (a : TAct) (j : TJob) : Int := if a.kind = 8 then 4 else if (taskOf c j.task).budget ≤ j.used then 5 else 0
def endJ (c : TCfg) (now : Int) (a : TAct) (i : Nat) (d : TDom) : TDom :=
  if overA c a (nth d.jobs i) > 0 then { tellOf d now (overA c a (nth d.jobs i)) (nth d.jobs i).task (nth d.jobs i).number with jobs := d.jobs.eraseIdx i } else d
def midJ (c : TCfg) (dom now : Int) (a : TAct) (cost : Int) (d : TDom) : TDom :=
  if refusedA c dom a then tellOf d now 12 (d.next - 1) 0 else happenA c now a cost d
/-- an action is done by job i; now: when it begins -/
def doA (c : TCfg) (dom now : Int) (i : Nat) (a : TAct) (cost : Int) (d : TDom) : TDom :=
  endJ c (now + cost) a i (midJ c dom (now + cost) a cost (usedJ cost i (startJ now i d)))

/-- D3: when the next job comes is said by dueOf; a window: its time, the domain, the cache -/
structure Win where
  now : Int
  d : TDom
  k : List (List TWay)
def idleTo (to_ at_ : Int) : Int := if 0 ≤ at_ ∧ at_ < to_ then at_ else to_
def winStep (c : TCfg) (dom : Int) (l : List TAct) (to_ : Int) (s : Win) : Win :=
  let d := releaseOf c dom s.now s.d
  let i := bestOf c d.jobs
  if i < 0 then ⟨idleTo to_ (dueOf c dom d), d, s.k⟩
  else if (l.length : Int) ≤ d.next ∨ to_ - s.now < worstA (nth l d.next.toNat) then ⟨to_, d, s.k⟩
  else
    let a := nth l d.next.toNat
    ⟨s.now + spendN s.k a, doA c dom s.now i.toNat a (spendN s.k a) d, spendK s.k a⟩
def winLoop (c : TCfg) (dom : Int) (l : List TAct) (to_ : Int) : Nat → Win → Win
  | 0, s => s
  | n + 1, s => if s.now < to_ then winLoop c dom l to_ n (winStep c dom l to_ s) else s
def winOf (c : TCfg) (dom : Int) (d : TDom) (k : List (List TWay)) (l : List TAct) (from_ to_ : Int) : Win := winLoop c dom l to_ (to_ - from_).toNat ⟨from_, d, k⟩
def windowD (c : TCfg) (dom : Int) (d : TDom) (k : List (List TWay)) (l : List TAct) (from_ to_ : Int) : TDom := releaseOf c dom to_ (winOf c dom d k l from_ to_).d
def windowK (c : TCfg) (dom : Int) (d : TDom) (k : List (List TWay)) (l : List TAct) (from_ to_ : Int) : List (List TWay) := (winOf c dom d k l from_ to_).k
end Go.Proofs.Ytinlmkhlgclbfab
end

section
namespace Go.Proofs.Ytinlmkhlgclbfab
open Go.RowKit
set_option maxRecDepth 100000
set_option maxHeartbeats 400000

/-- what a function value handed to IndexFunc must do at each element -/
def TellsWay (P : Program) (f : FuncId) (cap : Array Value) (xs : List TWay) (I : Nat → Prop) (p : Nat → Bool) (w : World) : Prop :=
  ∀ k, k < xs.length → ∀ w', Below w.heap.size w w' → Calls P f (#[.agg #[.int .i64 (nth xs k).line, .bool (nth xs k).dirty]] ++ cap) w' fun e w'' => e = .returned (.bool (p k)) ∧ Below w'.heap.size w' w''

theorem indexWay (xs : List TWay) (A : Option Addr) (c : Nat) (f : FuncId) (cap : Array Value) (p : Nat → Bool) (B : Nat) (w : World) (hB : B ≤ w.heap.size)
   (hs : Sl cWay (Low B) w A c xs) (he : Enters Try.prog f) (hf : TellsWay Try.prog f cap xs (Low B) p w) :
    Calls Try.prog 136 #[.slice A xs.length c, .func (.func f) #[] cap] w fun e w' => e = .returned (.int .i64 (findI xs.length p)) ∧ Below w.heap.size w w' := by
  have hm : xs.length ≤ maxLen := Nat.le_trans hs.cap hs.max
  unfold maxLen at hm
  unfold Enters at he
  go_enter Try.func136, Try.ntmps136
  go_wp2
  go_loopw [5, 8] (fun _ i wr => ∃ k : Nat, k ≤ xs.length ∧ i = .int .i64 k ∧ Hid (∀ j, j < k → p j = false) ∧ Below w.heap.size w wr) (fun _ i _ => xs.length - (intOf i).toNat)
  case atStart => exact ⟨0, Nat.zero_le _, rfl, fun j hj => by omega, Below.refl _ _⟩
  case round =>
    obtain ⟨k, hk, rfl, hp, hbw⟩ := hrel
    by_cases hlt : k < xs.length
    · obtain ⟨b, o, rfl, hI, hc0, hc1⟩ := (hs.next hB hbw).at_way hlt
      go_wp2_with (refine (hf k hlt wr hbw).mono ?_; rintro e w1 ⟨rfl, hb1⟩)
      · have h1 : p k = true := by assumption
        go_ret
        rw [findI_hit hlt hp.out h1]
        exact ⟨rfl, hbw.trans (hb1.mono hbw.size)⟩
      · have h1 : p k = false := by assumption
        go_roundw
        case rel => exact ⟨k + 1, by omega, by go_num, fun j hj => by
          by_cases e : j = k
          · subst e; exact h1
          · exact hp.out j (by omega), hbw.trans (hb1.mono hbw.size)⟩
        case measure => simp [intOf]; omega
    · go_wp2
      go_ret
      rw [findI_none fun j hj => hp.out j (by omega)]
      exact ⟨rfl, hbw⟩

theorem containsWay (xs : List TWay) (A : Option Addr) (c : Nat) (f : FuncId) (cap : Array Value) (p : Nat → Bool) (B : Nat) (w : World) (hB : B ≤ w.heap.size)
   (hs : Sl cWay (Low B) w A c xs) (he : Enters Try.prog f) (hf : TellsWay Try.prog f cap xs (Low B) p w) :
    Calls Try.prog 133 #[.slice A xs.length c, .func (.func f) #[] cap] w fun e w' => e = .returned (.bool (anyI xs.length p)) ∧ Below w.heap.size w w' := by
  have H := Lib.hid (indexWay xs A c f cap p B w hB hs he hf)
  clear hs he hf
  go_enter Try.func133, Try.ntmps133
  go_wp2_with (go_at_call 136; refine H.out.mono ?_; rintro e w1 ⟨rfl, hb1⟩)
  go_ret
  exact ⟨ret_bool (by rw [← findI_any]), hb1⟩
end Go.Proofs.Ytinlmkhlgclbfab
end

section
namespace Go.Proofs.Ytinlmkhlgclbfab
open Go.RowKit
set_option maxRecDepth 100000
set_option maxHeartbeats 400000

/-- what a function value handed to IndexFunc must do at each element -/
def TellsWays (P : Program) (f : FuncId) (cap : Array Value) (xs : List (List TWay)) (I : Nat → Prop) (p : Nat → Bool) (w : World) : Prop :=
  ∀ k, k < xs.length → ∀ w', Below w.heap.size w w' → ∀ A' c', Sl cWay I w' A' c' (nth xs k) → Calls P f (#[.slice A' (nth xs k).length c'] ++ cap) w' fun e w'' => e = .returned (.bool (p k)) ∧ Below w'.heap.size w' w''

theorem indexWays (xs : List (List TWay)) (A : Option Addr) (c : Nat) (f : FuncId) (cap : Array Value) (p : Nat → Bool) (B : Nat) (w : World) (hB : B ≤ w.heap.size)
   (hs : Sl cWay.slice (Low B) w A c xs) (he : Enters Try.prog f) (hf : TellsWays Try.prog f cap xs (Low B) p w) :
    Calls Try.prog 132 #[.slice A xs.length c, .func (.func f) #[] cap] w fun e w' => e = .returned (.int .i64 (findI xs.length p)) ∧ Below w.heap.size w w' := by
  have hm : xs.length ≤ maxLen := Nat.le_trans hs.cap hs.max
  unfold maxLen at hm
  unfold Enters at he
  go_enter Try.func132, Try.ntmps132
  go_wp2
  go_loopw [5, 8] (fun _ i wr => ∃ k : Nat, k ≤ xs.length ∧ i = .int .i64 k ∧ Hid (∀ j, j < k → p j = false) ∧ Below w.heap.size w wr) (fun _ i _ => xs.length - (intOf i).toNat)
  case atStart => exact ⟨0, Nat.zero_le _, rfl, fun j hj => by omega, Below.refl _ _⟩
  case round =>
    obtain ⟨k, hk, rfl, hp, hbw⟩ := hrel
    by_cases hlt : k < xs.length
    · obtain ⟨b, o, A', c', rfl, hI, hcell, hin⟩ := (hs.next hB hbw).at_slice hlt
      go_wp2_with (refine (hf k hlt wr hbw A' c' hin).mono ?_; rintro e w1 ⟨rfl, hb1⟩)
      · have h1 : p k = true := by assumption
        go_ret
        rw [findI_hit hlt hp.out h1]
        exact ⟨rfl, hbw.trans (hb1.mono hbw.size)⟩
      · have h1 : p k = false := by assumption
        go_roundw
        case rel => exact ⟨k + 1, by omega, by go_num, fun j hj => by
          by_cases e : j = k
          · subst e; exact h1
          · exact hp.out j (by omega), hbw.trans (hb1.mono hbw.size)⟩
        case measure => simp [intOf]; omega
    · go_wp2
      go_ret
      rw [findI_none fun j hj => hp.out j (by omega)]
      exact ⟨rfl, hbw⟩

theorem containsWays (xs : List (List TWay)) (A : Option Addr) (c : Nat) (f : FuncId) (cap : Array Value) (p : Nat → Bool) (B : Nat) (w : World) (hB : B ≤ w.heap.size)
   (hs : Sl cWay.slice (Low B) w A c xs) (he : Enters Try.prog f) (hf : TellsWays Try.prog f cap xs (Low B) p w) :
    Calls Try.prog 107 #[.slice A xs.length c, .func (.func f) #[] cap] w fun e w' => e = .returned (.bool (anyI xs.length p)) ∧ Below w.heap.size w w' := by
  have H := Lib.hid (indexWays xs A c f cap p B w hB hs he hf)
  clear hs he hf
  go_enter Try.func107, Try.ntmps107
  go_wp2_with (go_at_call 132; refine H.out.mono ?_; rintro e w1 ⟨rfl, hb1⟩)
  go_ret
  exact ⟨ret_bool (by rw [← findI_any]), hb1⟩
end Go.Proofs.Ytinlmkhlgclbfab
end
