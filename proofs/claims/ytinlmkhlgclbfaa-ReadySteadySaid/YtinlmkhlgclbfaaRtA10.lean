/- ConfigP RingP MailA -/
import Derived.Test.YtinlmkhlgclbfaaRtA04
import Derived.Test.YtinlmkhlgclbfaaProg
section
namespace Go.Proofs.Ytinlmkhlgclbfaa
open Go.RowKit

def isDom (doms d : Int) : Bool := inB 0 d (doms - 1)
def headErr (c : TCfg) : Int :=
  if !inB 1 c.sets 4 || !inB 1 c.ways 3 || !inB 1 c.doms 4 || !inB 1 c.quantum 100 then 3
  else if !inB (2 + 5 * c.sets * c.ways) c.pad 99 then 4
  else if !inB 1 c.slots.length 6 || decide (4 < c.owners.length) || decide (4 < c.chans.length) || decide (6 < c.tasks.length) then 2 else 0
def slotErr (doms : Int) (x : TSlot) : Int := if !isDom doms x.dom then 5 else if !inB 100 x.len 1000 then 3 else 0
def slotsErr (c : TCfg) : Int := firstE c.slots.length fun i => slotErr c.doms (nth c.slots i)
def ownersErr (c : TCfg) : Int := if anyI c.owners.length (fun i => !isDom c.doms (nth c.owners i)) then 5 else 0
def sameChan (xs : List TChan) (i j : Nat) : Bool := (nth xs j).src == (nth xs i).src && (nth xs j).dst == (nth xs i).dst
def chanErr (doms : Int) (xs : List TChan) (i : Nat) : Int :=
  if !isDom doms (nth xs i).src || !isDom doms (nth xs i).dst then 5
  else if (nth xs i).src = (nth xs i).dst then 1
  else if !inB 1 (nth xs i).size 4 then 3
  else if anyI i (sameChan xs i) then 6 else 0
def chansErr (c : TCfg) : Int := firstE c.chans.length (chanErr c.doms c.chans)
def taskErr (doms : Int) (x : TTask) : Int :=
  if !isDom doms x.dom then 5
  else if !inB 1 x.period 5000 || !inB 1 x.budget x.period || !inB 1 x.dead x.period then 3 else 0
def tasksErr (c : TCfg) : Int := firstE c.tasks.length fun i => taskErr c.doms (nth c.tasks i)
def thenE (a b : Int) : Int := if a = 0 then b else a
/-- B1 -/
def checkConfig (c : TCfg) : Int := thenE (headErr c) (thenE (slotsErr c) (thenE (ownersErr c) (thenE (chansErr c) (tasksErr c))))

theorem thenE_zero {a b : Int} : thenE a b = 0 ↔ a = 0 ∧ b = 0 := by
  unfold thenE; split
  · rename_i h; simp [h]
  · rename_i h; simp [h]

structure CfgOk (c : TCfg) : Prop where
  sets : 1 ≤ c.sets ∧ c.sets ≤ 4
  ways : 1 ≤ c.ways ∧ c.ways ≤ 3
  doms : 1 ≤ c.doms ∧ c.doms ≤ 4
  quantum : 1 ≤ c.quantum ∧ c.quantum ≤ 100
  pad : 2 + 5 * c.sets * c.ways ≤ c.pad ∧ c.pad ≤ 99
  nslots : 1 ≤ c.slots.length ∧ c.slots.length ≤ 6
  nowners : c.owners.length ≤ 4
  nchans : c.chans.length ≤ 4
  ntasks : c.tasks.length ≤ 6
  slot : ∀ i, i < c.slots.length → 0 ≤ (nth c.slots i).dom ∧ (nth c.slots i).dom < c.doms ∧ 100 ≤ (nth c.slots i).len ∧ (nth c.slots i).len ≤ 1000
  owner : ∀ i, i < c.owners.length → 0 ≤ nth c.owners i ∧ nth c.owners i < c.doms
  chan : ∀ i, i < c.chans.length → (0 ≤ (nth c.chans i).src ∧ (nth c.chans i).src < c.doms) ∧ (0 ≤ (nth c.chans i).dst ∧ (nth c.chans i).dst < c.doms) ∧ (nth c.chans i).src ≠ (nth c.chans i).dst ∧ 1 ≤ (nth c.chans i).size ∧ (nth c.chans i).size ≤ 4
  task : ∀ i, i < c.tasks.length → (0 ≤ (nth c.tasks i).dom ∧ (nth c.tasks i).dom < c.doms) ∧ (1 ≤ (nth c.tasks i).period ∧ (nth c.tasks i).period ≤ 5000) ∧ (1 ≤ (nth c.tasks i).budget ∧ (nth c.tasks i).budget ≤ (nth c.tasks i).period) ∧ (1 ≤ (nth c.tasks i).dead ∧ (nth c.tasks i).dead ≤ (nth c.tasks i).period)

theorem isDom_true {doms d : Int} : isDom doms d = true ↔ 0 ≤ d ∧ d < doms := by unfold isDom; rw [inB_true]; omega
theorem ite_zero {p : Prop} [Decidable p] {a b : Int} (ha : a ≠ 0) : (if p then a else b) = 0 ↔ ¬ p ∧ b = 0 := by
  split
  · rename_i h; simp [h, ha]
  · rename_i h; simp [h]

theorem head_ok {c : TCfg} (h : headErr c = 0) : (1 ≤ c.sets ∧ c.sets ≤ 4) ∧ (1 ≤ c.ways ∧ c.ways ≤ 3) ∧ (1 ≤ c.doms ∧ c.doms ≤ 4) ∧ (1 ≤ c.quantum ∧ c.quantum ≤ 100) ∧ (2 + 5 * c.sets * c.ways ≤ c.pad ∧ c.pad ≤ 99) ∧ (1 ≤ c.slots.length ∧ c.slots.length ≤ 6) ∧ c.owners.length ≤ 4 ∧ c.chans.length ≤ 4 ∧ c.tasks.length ≤ 6 := by
  unfold headErr at h
  rw [ite_zero (by omega), ite_zero (by omega), ite_zero (by omega)] at h
  simp only [Bool.or_eq_true, Bool.not_eq_true', not_or, Bool.not_eq_false, decide_eq_true_eq, inB_true] at h
  omega

theorem checkConfig_ok {c : TCfg} (h : checkConfig c = 0) : CfgOk c := by
  unfold checkConfig at h
  rw [thenE_zero, thenE_zero, thenE_zero, thenE_zero] at h
  obtain ⟨h1, h2, h3, h4, h5⟩ := h
  obtain ⟨a1, a2, a3, a4, a5, a6, a7, a8, a9⟩ := head_ok h1
  refine ⟨a1, a2, a3, a4, a5, a6, a7, a8, a9, fun i hi => ?_, fun i hi => ?_, fun i hi => ?_, fun i hi => ?_⟩
  · have := firstE_zero h2 i hi
    unfold slotErr at this
    rw [ite_zero (by omega), ite_zero (by omega)] at this
    simp only [Bool.not_eq_true', Bool.not_eq_false, isDom_true, inB_true] at this
    omega
  · unfold ownersErr at h3
    rw [ite_zero (by omega)] at h3
    have := anyI_false.1 (by simpa using h3.1) i hi
    have := isDom_true.1 (by simpa using this)
    exact this
  · have := firstE_zero h4 i hi
    unfold chanErr at this
    rw [ite_zero (by omega), ite_zero (by omega), ite_zero (by omega), ite_zero (by omega)] at this
    simp only [Bool.or_eq_true, Bool.not_eq_true', not_or, Bool.not_eq_false, isDom_true, inB_true] at this
    obtain ⟨b1, b2, b3, b4, _⟩ := this
    exact ⟨b1.1, b1.2, b2, b3⟩
  · have := firstE_zero h5 i hi
    unfold taskErr at this
    rw [ite_zero (by omega), ite_zero (by omega)] at this
    simp only [Bool.or_eq_true, Bool.not_eq_true', not_or, Bool.not_eq_false, isDom_true, inB_true] at this
    obtain ⟨b1, ⟨⟨b2, b3⟩, b4⟩, _⟩ := this
    exact ⟨b1, b2, b3, b4⟩

/-- C2 -/
def arrErr (lines : Nat) (x : TArr) : Int := if !inB 0 x.t 100000 then 3 else if !inB 0 x.line ((lines : Int) - 1) then 5 else 0
def checkArrivals (c : TCfg) (l : List TArr) : Int := if 40 < l.length then 2 else firstE l.length fun i => arrErr c.owners.length (nth l i)
theorem checkArrivals_ok {c : TCfg} {l : List TArr} (h : checkArrivals c l = 0) : l.length ≤ 40 ∧ ∀ i, i < l.length → 0 ≤ (nth l i).t ∧ (nth l i).t ≤ 100000 ∧ 0 ≤ (nth l i).line ∧ (nth l i).line < c.owners.length := by
  unfold checkArrivals at h
  rw [ite_zero (by omega)] at h
  refine ⟨by omega, fun i hi => ?_⟩
  have := firstE_zero h.2 i hi
  unfold arrErr at this
  rw [ite_zero (by omega), ite_zero (by omega)] at this
  simp only [Bool.not_eq_true', Bool.not_eq_false, inB_true] at this
  omega
end Go.Proofs.Ytinlmkhlgclbfaa
end

section
namespace Go.Proofs.Ytinlmkhlgclbfaa
open Go.RowKit

def badValue (n : Int) : Bool := !inB 0 n 255
def areValues (vs : List Int) : Bool := !anyI vs.length fun j => badValue (nth vs j)
/-- C1: Check of a ring -/
def checkRing (vs : List Int) (lost size : Int) : Int :=
  if !inB 1 size 4 then 3 else if size < vs.length then 2 else if !areValues vs || !inB 0 lost 100000 then 3 else 0
end Go.Proofs.Ytinlmkhlgclbfaa
end

section
namespace Go.Proofs.Ytinlmkhlgclbfaa
open Go.RowKit
set_option maxRecDepth 100000
set_option maxHeartbeats 400000

theorem mailWithin (n a b : Int) (w : World) :
    Calls Try.prog 66 #[.int .i64 n, .int .i64 a, .int .i64 b] w fun e w' => e = .returned (.bool (inB a n b)) ∧ w = w' := by
  go_enter Try.func66, Try.ntmps66
  go_wp2
  all_goals go_ret
  all_goals (unfold inB; simp [*] <;> omega)

theorem refBetween (n a b : Int) (w : World) :
    Calls Try.prog 65 #[.int .i64 n, .int .i64 a, .int .i64 b] w fun e w' => e = .returned (.bool (inB a n b)) ∧ w = w' := by
  go_enter Try.func65, Try.ntmps65
  go_wp2
  all_goals go_ret
  all_goals (unfold inB; simp [*] <;> omega)

theorem mailValues1 (n : Int) (w : World) :
    Calls Try.prog 104 #[.int .i64 n] w fun e w' => e = .returned (.bool (badValue n)) ∧ w = w' := by
  go_enter Try.func104, Try.ntmps104
  go_wp2_with (go_at_call 66; refine (mailWithin _ _ _ _).mono ?_; rintro e w' ⟨rfl, rfl⟩)
  go_ret
  exact ⟨rfl, rfl⟩

/-- what a function value handed to IndexFunc must do at each element -/
def Tells (P : Program) (f : FuncId) (cap : Array Value) (n : Nat) (val : Nat → Value) (p : Nat → Bool) (w : World) : Prop :=
  ∀ k, k < n → ∀ w', Below w.heap.size w w' → Calls P f (#[val k] ++ cap) w' fun e w'' => e = .returned (.bool (p k)) ∧ Below w'.heap.size w' w''

theorem indexInt (xs : List Int) (A : Option Addr) (c : Nat) (f : FuncId) (cap : Array Value) (p : Nat → Bool) (B : Nat) (w : World) (hB : B ≤ w.heap.size)
   (hs : Sl cInt (Low B) w A c xs) (he : Enters Try.prog f) (hf : Tells Try.prog f cap xs.length (fun k => .int .i64 (nth xs k)) p w) :
    Calls Try.prog 128 #[.slice A xs.length c, .func (.func f) #[] cap] w fun e w' => e = .returned (.int .i64 (findI xs.length p)) ∧ Below w.heap.size w w' := by
  have hm : xs.length ≤ maxLen := Nat.le_trans hs.cap hs.max
  unfold maxLen at hm
  unfold Enters at he
  go_enter Try.func128, Try.ntmps128
  go_wp2
  go_loopw [5, 8] (fun _ i wr => ∃ k : Nat, k ≤ xs.length ∧ i = .int .i64 k ∧ Hid (∀ j, j < k → p j = false) ∧ Below w.heap.size w wr) (fun _ i _ => xs.length - (intOf i).toNat)
  case atStart => exact ⟨0, Nat.zero_le _, rfl, fun j hj => by omega, Below.refl _ _⟩
  case round =>
    obtain ⟨k, hk, rfl, hp, hbw⟩ := hrel
    by_cases hlt : k < xs.length
    · obtain ⟨b, o, rfl, hI, hcell⟩ := (hs.next hB hbw).at_int hlt
      go_wp2_with (refine (hf k hlt wr hbw).mono ?_; rintro e w1 ⟨rfl, hb1⟩)
      · have h1 : p k = true := by assumption
        go_ret
        rw [findI_hit hlt hp.out h1]
        exact ⟨rfl, hbw.trans (hb1.mono hbw.size)⟩
      · have h1 : p k = false := by assumption
        go_roundw
        case rel => exact ⟨k + 1, by omega, by go_num, fun j hj => by
          by_cases e : j = k
          · subst e; exact h1
          · exact hp.out j (by omega), hbw.trans (hb1.mono hbw.size)⟩
        case measure => simp [intOf]; omega
    · go_wp2
      go_ret
      rw [findI_none fun j hj => hp.out j (by omega)]
      exact ⟨rfl, hbw⟩

theorem containsInt (xs : List Int) (A : Option Addr) (c : Nat) (f : FuncId) (cap : Array Value) (p : Nat → Bool) (B : Nat) (w : World) (hB : B ≤ w.heap.size)
   (hs : Sl cInt (Low B) w A c xs) (he : Enters Try.prog f) (hf : Tells Try.prog f cap xs.length (fun k => .int .i64 (nth xs k)) p w) :
    Calls Try.prog 103 #[.slice A xs.length c, .func (.func f) #[] cap] w fun e w' => e = .returned (.bool (anyI xs.length p)) ∧ Below w.heap.size w w' := by
  have H := Lib.hid (indexInt xs A c f cap p B w hB hs he hf)
  clear hs he hf
  go_enter Try.func103, Try.ntmps103
  go_wp2_with (go_at_call 128; refine H.out.mono ?_; rintro e w1 ⟨rfl, hb1⟩)
  go_ret
  exact ⟨ret_bool (by rw [← findI_any]), hb1⟩

theorem enters_mailValues1 : Enters Try.prog 104 := fun _ _ => by kernel_rfl

theorem mailValues (xs : List Int) (A : Option Addr) (c : Nat) (B : Nat) (w : World) (hB : B ≤ w.heap.size) (hs : Sl cInt (Low B) w A c xs) :
    Calls Try.prog 62 #[.slice A xs.length c] w fun e w' => e = .returned (.bool (areValues xs)) ∧ Below w.heap.size w w' := by
  have H := Lib.hid (containsInt xs A c 104 #[] (fun j => badValue (nth xs j)) B w hB hs enters_mailValues1
    (fun k _ w' _ => (mailValues1 _ w').mono fun e w'' h => ⟨h.1, by rw [← h.2]; exact Below.refl _ _⟩))
  clear hs
  go_enter Try.func62, Try.ntmps62
  go_wp2_with (go_at_call 103; refine H.out.mono ?_; rintro e w1 ⟨rfl, hb1⟩)
  go_ret
  exact ⟨rfl, hb1⟩

theorem refAreValues (xs : List Int) (A : Option Addr) (c : Nat) (B : Nat) (w : World) (hB : B ≤ w.heap.size) (hs : Sl cInt (Low B) w A c xs) :
    Calls Try.prog 16 #[.slice A xs.length c] w fun e w' => e = .returned (.bool (areValues xs)) ∧ w = w' := by
  have hm : xs.length ≤ maxLen := Nat.le_trans hs.cap hs.max
  unfold maxLen at hm
  go_enter Try.func16, Try.ntmps16
  go_wp2
  go_loop [3] (fun i => ∃ k : Nat, k ≤ xs.length ∧ i = .int .i64 k ∧ Hid (∀ j, j < k → badValue (nth xs j) = false)) (fun i => xs.length - (intOf i).toNat)
  case atStart => exact ⟨0, Nat.zero_le _, rfl, fun j hj => by omega⟩
  case round =>
    obtain ⟨k, hk, rfl, hp⟩ := hrel
    by_cases hlt : k < xs.length
    · obtain ⟨b, o, rfl, hI, hcell⟩ := hs.at_int hlt
      go_wp2_with (go_at_call 65; refine (refBetween _ _ _ _).mono ?_; rintro e w' ⟨rfl, rfl⟩)
      · have h1 : inB 0 (nth xs k) 255 = false := by simpa using ‹(!inB 0 (nth xs k) 255) = true›
        go_ret
        refine ⟨ret_bool ?_, rfl⟩
        have h2 : anyI xs.length (fun j => badValue (nth xs j)) = true := anyI_true.2 ⟨k, hlt, by simp [badValue, h1]⟩
        simp [areValues, h2]
      · have h1 : inB 0 (nth xs k) 255 = true := by simpa using ‹(!inB 0 (nth xs k) 255) = false›
        go_round
        case rel => exact ⟨k + 1, by omega, by go_num, fun j hj => by
          by_cases e : j = k
          · subst e; simp [badValue, h1]
          · exact hp.out j (by omega)⟩
        case measure => simp [intOf]; omega
    · go_wp2
      go_ret
      have h2 : anyI xs.length (fun j => badValue (nth xs j)) = false := anyI_false.2 fun j hj => hp.out j (by omega)
      exact ⟨ret_bool (by simp [areValues, h2]), rfl⟩

theorem mailCheck (vs : List Int) (lost size : Int) (A : Option Addr) (c : Nat) (B : Nat) (w : World) (hB : B ≤ w.heap.size) (hs : Sl cInt (Low B) w A c vs) :
    Calls Try.prog 20 #[.agg #[.slice A vs.length c, .int .i64 lost], .int .i64 size] w fun e w' => e = .returned (.int .i64 (checkRing vs lost size)) ∧ Below w.heap.size w w' := by
  have hm : vs.length ≤ maxLen := Nat.le_trans hs.cap hs.max
  unfold maxLen at hm
  have H := fun W (h : Below w.heap.size w W) => mailValues vs A c B W (Nat.le_trans hB h.size) (hs.next hB h)
  clear hs
  have hb0 : Below w.heap.size w (w.alloc (.cells #[.slice A vs.length c, .int .i64 lost] 24)) := byB
  go_enter Try.func20, Try.ntmps20
  go_wp2_with (first | (go_at_call 66; refine (mailWithin _ _ _ _).mono ?_; rintro e w' ⟨rfl, rfl⟩) | (go_at_call 62; refine (H _ hb0).mono ?_; rintro e w1 ⟨rfl, hb1⟩; obtain ⟨hc1, hf1⟩ := bcell hb1))
  all_goals go_ret
  all_goals refine ⟨ret_int ?_, (by first | exact hb0 | exact hb0.trans (hb1.mono hb0.size))⟩
  all_goals simp_all [checkRing]
end Go.Proofs.Ytinlmkhlgclbfaa
end
