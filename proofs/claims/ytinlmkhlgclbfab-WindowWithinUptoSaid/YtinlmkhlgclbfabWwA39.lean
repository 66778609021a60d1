/- IdxChan -/
import Derived.Test.YtinlmkhlgclbfabWwA03
import Derived.Test.YtinlmkhlgclbfabProg
namespace Go.Proofs.Ytinlmkhlgclbfab
open Go.RowKit
set_option maxRecDepth 100000
set_option maxHeartbeats 400000

/-- what a function value handed to IndexFunc must do at each element -/
def TellsChan (P : Program) (f : FuncId) (cap : Array Value) (xs : List TChan) (I : Nat → Prop) (p : Nat → Bool) (w : World) : Prop :=
  ∀ k, k < xs.length → ∀ w', Below w.heap.size w w' → Calls P f (#[.agg #[.int .i64 (nth xs k).src, .int .i64 (nth xs k).dst, .int .i64 (nth xs k).size]] ++ cap) w' fun e w'' => e = .returned (.bool (p k)) ∧ Below w'.heap.size w' w''

theorem indexChan (xs : List TChan) (A : Option Addr) (c : Nat) (f : FuncId) (cap : Array Value) (p : Nat → Bool) (B : Nat) (w : World) (hB : B ≤ w.heap.size)
   (hs : Sl cChan (Low B) w A c xs) (he : Enters Try.prog f) (hf : TellsChan Try.prog f cap xs (Low B) p w) :
    Calls Try.prog 143 #[.slice A xs.length c, .func (.func f) #[] cap] w fun e w' => e = .returned (.int .i64 (findI xs.length p)) ∧ Below w.heap.size w w' := by
  have hm : xs.length ≤ maxLen := Nat.le_trans hs.cap hs.max
  unfold maxLen at hm
  unfold Enters at he
  go_enter Try.func143, Try.ntmps143
  go_wp2
  go_loopw [5, 8] (fun _ i wr => ∃ k : Nat, k ≤ xs.length ∧ i = .int .i64 k ∧ Hid (∀ j, j < k → p j = false) ∧ Below w.heap.size w wr) (fun _ i _ => xs.length - (intOf i).toNat)
  case atStart => exact ⟨0, Nat.zero_le _, rfl, fun j hj => by omega, Below.refl _ _⟩
  case round =>
    obtain ⟨k, hk, rfl, hp, hbw⟩ := hrel
    by_cases hlt : k < xs.length
    · obtain ⟨b, o, rfl, hI, hc0, hc1, hc2⟩ := (hs.next hB hbw).at_chan hlt
      go_wp2_with (refine (hf k hlt wr hbw).mono ?_; rintro e w1 ⟨rfl, hb1⟩)
      · have h1 : p k = true := by assumption
        go_ret
        rw [findI_hit hlt hp.out h1]
        exact ⟨rfl, hbw.trans (hb1.mono hbw.size)⟩
      · have h1 : p k = false := by assumption
        go_roundw
        case rel => exact ⟨k + 1, by omega, by go_num, fun j hj => by
          by_cases e : j = k
          · subst e; exact h1
          · exact hp.out j (by omega), hbw.trans (hb1.mono hbw.size)⟩
        case measure => simp [intOf]; omega
    · go_wp2
      go_ret
      rw [findI_none fun j hj => hp.out j (by omega)]
      exact ⟨rfl, hbw⟩

theorem containsChan (xs : List TChan) (A : Option Addr) (c : Nat) (f : FuncId) (cap : Array Value) (p : Nat → Bool) (B : Nat) (w : World) (hB : B ≤ w.heap.size)
   (hs : Sl cChan (Low B) w A c xs) (he : Enters Try.prog f) (hf : TellsChan Try.prog f cap xs (Low B) p w) :
    Calls Try.prog 124 #[.slice A xs.length c, .func (.func f) #[] cap] w fun e w' => e = .returned (.bool (anyI xs.length p)) ∧ Below w.heap.size w w' := by
  have H := Lib.hid (indexChan xs A c f cap p B w hB hs he hf)
  clear hs he hf
  go_enter Try.func124, Try.ntmps124
  go_wp2_with (go_at_call 143; refine H.out.mono ?_; rintro e w1 ⟨rfl, hb1⟩)
  go_ret
  exact ⟨ret_bool (by rw [← findI_any]), hb1⟩
end Go.Proofs.Ytinlmkhlgclbfab
