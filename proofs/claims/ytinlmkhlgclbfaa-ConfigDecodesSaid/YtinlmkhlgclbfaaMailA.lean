/-
  MailA: the contracts of mail's small functions (within, Values, Check), of slices.IndexFunc and ContainsFunc at []int, and of the reference's AreValues, CheckRing.
-/
import Derived.Test.YtinlmkhlgclbfaaProg
import Derived.Test.YtinlmkhlgclbfaaRingP
namespace Go.Proofs.Ytinlmkhlgclbfaa
open Go.RowKit
set_option maxRecDepth 100000
set_option maxHeartbeats 400000

theorem mailWithin (n a b : Int) (w : World) :
    Calls Try.prog 66 #[.int .i64 n, .int .i64 a, .int .i64 b] w fun e w' => e = .returned (.bool (inB a n b)) ∧ w = w' := by
  go_enter Try.func66, Try.ntmps66
  go_wp2
  all_goals go_ret
  all_goals (unfold inB; simp [*] <;> omega)

theorem refBetween (n a b : Int) (w : World) :
    Calls Try.prog 65 #[.int .i64 n, .int .i64 a, .int .i64 b] w fun e w' => e = .returned (.bool (inB a n b)) ∧ w = w' := by
  go_enter Try.func65, Try.ntmps65
  go_wp2
  all_goals go_ret
  all_goals (unfold inB; simp [*] <;> omega)

theorem mailValues1 (n : Int) (w : World) :
    Calls Try.prog 104 #[.int .i64 n] w fun e w' => e = .returned (.bool (badValue n)) ∧ w = w' := by
  go_enter Try.func104, Try.ntmps104
  go_wp2_with (go_at_call 66; refine (mailWithin _ _ _ _).mono ?_; rintro e w' ⟨rfl, rfl⟩)
  go_ret
  exact ⟨rfl, rfl⟩

/-- what a function value handed to IndexFunc must do at each element -/
def Tells (P : Program) (f : FuncId) (cap : Array Value) (n : Nat) (val : Nat → Value) (p : Nat → Bool) (w : World) : Prop :=
  ∀ k, k < n → ∀ w', Below w.heap.size w w' → Calls P f (#[val k] ++ cap) w' fun e w'' => e = .returned (.bool (p k)) ∧ Below w'.heap.size w' w''

theorem indexInt (xs : List Int) (A : Option Addr) (c : Nat) (f : FuncId) (cap : Array Value) (p : Nat → Bool) (B : Nat) (w : World) (hB : B ≤ w.heap.size)
   (hs : Sl cInt (Low B) w A c xs) (he : Enters Try.prog f) (hf : Tells Try.prog f cap xs.length (fun k => .int .i64 (nth xs k)) p w) :
    Calls Try.prog 128 #[.slice A xs.length c, .func (.func f) #[] cap] w fun e w' => e = .returned (.int .i64 (findI xs.length p)) ∧ Below w.heap.size w w' := by
  have hm : xs.length ≤ maxLen := Nat.le_trans hs.cap hs.max
  unfold maxLen at hm
  unfold Enters at he
  go_enter Try.func128, Try.ntmps128
  go_wp2
  go_loopw [5, 8] (fun _ i wr => ∃ k : Nat, k ≤ xs.length ∧ i = .int .i64 k ∧ Hid (∀ j, j < k → p j = false) ∧ Below w.heap.size w wr) (fun _ i _ => xs.length - (intOf i).toNat)
  case atStart => exact ⟨0, Nat.zero_le _, rfl, fun j hj => by omega, Below.refl _ _⟩
  case round =>
    obtain ⟨k, hk, rfl, hp, hbw⟩ := hrel
    by_cases hlt : k < xs.length
    · obtain ⟨b, o, rfl, hI, hcell⟩ := (hs.next hB hbw).at_int hlt
      go_wp2_with (refine (hf k hlt wr hbw).mono ?_; rintro e w1 ⟨rfl, hb1⟩)
      · have h1 : p k = true := by assumption
        go_ret
        rw [findI_hit hlt hp.out h1]
        exact ⟨rfl, hbw.trans (hb1.mono hbw.size)⟩
      · have h1 : p k = false := by assumption
        go_roundw
        case rel => exact ⟨k + 1, by omega, by go_num, fun j hj => by
          by_cases e : j = k
          · subst e; exact h1
          · exact hp.out j (by omega), hbw.trans (hb1.mono hbw.size)⟩
        case measure => simp [intOf]; omega
    · go_wp2
      go_ret
      rw [findI_none fun j hj => hp.out j (by omega)]
      exact ⟨rfl, hbw⟩

theorem containsInt (xs : List Int) (A : Option Addr) (c : Nat) (f : FuncId) (cap : Array Value) (p : Nat → Bool) (B : Nat) (w : World) (hB : B ≤ w.heap.size)
   (hs : Sl cInt (Low B) w A c xs) (he : Enters Try.prog f) (hf : Tells Try.prog f cap xs.length (fun k => .int .i64 (nth xs k)) p w) :
    Calls Try.prog 103 #[.slice A xs.length c, .func (.func f) #[] cap] w fun e w' => e = .returned (.bool (anyI xs.length p)) ∧ Below w.heap.size w w' := by
  have H := Lib.hid (indexInt xs A c f cap p B w hB hs he hf)
  clear hs he hf
  go_enter Try.func103, Try.ntmps103
  go_wp2_with (go_at_call 128; refine H.out.mono ?_; rintro e w1 ⟨rfl, hb1⟩)
  go_ret
  exact ⟨ret_bool (by rw [← findI_any]), hb1⟩

theorem enters_mailValues1 : Enters Try.prog 104 := fun _ _ => by kernel_rfl

theorem mailValues (xs : List Int) (A : Option Addr) (c : Nat) (B : Nat) (w : World) (hB : B ≤ w.heap.size) (hs : Sl cInt (Low B) w A c xs) :
    Calls Try.prog 62 #[.slice A xs.length c] w fun e w' => e = .returned (.bool (areValues xs)) ∧ Below w.heap.size w w' := by
  have H := Lib.hid (containsInt xs A c 104 #[] (fun j => badValue (nth xs j)) B w hB hs enters_mailValues1
    (fun k _ w' _ => (mailValues1 _ w').mono fun e w'' h => ⟨h.1, by rw [← h.2]; exact Below.refl _ _⟩))
  clear hs
  go_enter Try.func62, Try.ntmps62
  go_wp2_with (go_at_call 103; refine H.out.mono ?_; rintro e w1 ⟨rfl, hb1⟩)
  go_ret
  exact ⟨rfl, hb1⟩

theorem refAreValues (xs : List Int) (A : Option Addr) (c : Nat) (B : Nat) (w : World) (hB : B ≤ w.heap.size) (hs : Sl cInt (Low B) w A c xs) :
    Calls Try.prog 16 #[.slice A xs.length c] w fun e w' => e = .returned (.bool (areValues xs)) ∧ w = w' := by
  have hm : xs.length ≤ maxLen := Nat.le_trans hs.cap hs.max
  unfold maxLen at hm
  go_enter Try.func16, Try.ntmps16
  go_wp2
  go_loop [3] (fun i => ∃ k : Nat, k ≤ xs.length ∧ i = .int .i64 k ∧ Hid (∀ j, j < k → badValue (nth xs j) = false)) (fun i => xs.length - (intOf i).toNat)
  case atStart => exact ⟨0, Nat.zero_le _, rfl, fun j hj => by omega⟩
  case round =>
    obtain ⟨k, hk, rfl, hp⟩ := hrel
    by_cases hlt : k < xs.length
    · obtain ⟨b, o, rfl, hI, hcell⟩ := hs.at_int hlt
      go_wp2_with (go_at_call 65; refine (refBetween _ _ _ _).mono ?_; rintro e w' ⟨rfl, rfl⟩)
      · have h1 : inB 0 (nth xs k) 255 = false := by simpa using ‹(!inB 0 (nth xs k) 255) = true›
        go_ret
        refine ⟨ret_bool ?_, rfl⟩
        have h2 : anyI xs.length (fun j => badValue (nth xs j)) = true := anyI_true.2 ⟨k, hlt, by simp [badValue, h1]⟩
        simp [areValues, h2]
      · have h1 : inB 0 (nth xs k) 255 = true := by simpa using ‹(!inB 0 (nth xs k) 255) = false›
        go_round
        case rel => exact ⟨k + 1, by omega, by go_num, fun j hj => by
          by_cases e : j = k
          · subst e; simp [badValue, h1]
          · exact hp.out j (by omega)⟩
        case measure => simp [intOf]; omega
    · go_wp2
      go_ret
      have h2 : anyI xs.length (fun j => badValue (nth xs j)) = false := anyI_false.2 fun j hj => hp.out j (by omega)
      exact ⟨ret_bool (by simp [areValues, h2]), rfl⟩

theorem mailCheck (vs : List Int) (lost size : Int) (A : Option Addr) (c : Nat) (B : Nat) (w : World) (hB : B ≤ w.heap.size) (hs : Sl cInt (Low B) w A c vs) :
    Calls Try.prog 20 #[.agg #[.slice A vs.length c, .int .i64 lost], .int .i64 size] w fun e w' => e = .returned (.int .i64 (checkRing vs lost size)) ∧ Below w.heap.size w w' := by
  have hm : vs.length ≤ maxLen := Nat.le_trans hs.cap hs.max
  unfold maxLen at hm
  have H := fun W (h : Below w.heap.size w W) => mailValues vs A c B W (Nat.le_trans hB h.size) (hs.next hB h)
  clear hs
  have hb0 : Below w.heap.size w (w.alloc (.cells #[.slice A vs.length c, .int .i64 lost] 24)) := (by repeat (first | with_reducible exact Below.refl _ _ | with_reducible assumption | (with_reducible refine Below.drew ?_) | (with_reducible refine Below.alloc ?_ ?_ _; rotate_left; (first | omega | (simp <;> omega))) | (with_reducible refine Below.setCell ?_ ?_ _; rotate_left; (first | omega | (simp <;> omega))) | (with_reducible refine below_drewN ?_ _) | (refine Below.trans ?_ (Below.mono (by with_reducible assumption) (by first | omega | (simp <;> omega))))))
  go_enter Try.func20, Try.ntmps20
  go_wp2_with (first | (go_at_call 66; refine (mailWithin _ _ _ _).mono ?_; rintro e w' ⟨rfl, rfl⟩) | (go_at_call 62; refine (H _ hb0).mono ?_; rintro e w1 ⟨rfl, hb1⟩; obtain ⟨hc1, hf1⟩ := bcell hb1))
  all_goals go_ret
  all_goals refine ⟨ret_int ?_, (by first | exact hb0 | exact hb0.trans (hb1.mono hb0.size))⟩
  all_goals simp_all [checkRing]
end Go.Proofs.Ytinlmkhlgclbfaa
