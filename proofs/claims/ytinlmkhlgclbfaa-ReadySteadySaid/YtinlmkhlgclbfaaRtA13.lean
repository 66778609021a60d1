/- CloneJob CloneEv IdxWay IdxWays -/
import Derived.Test.YtinlmkhlgclbfaaRtA04
import Derived.Test.YtinlmkhlgclbfaaRtA12
import Derived.Test.YtinlmkhlgclbfaaProg
section
namespace Go.Proofs.Ytinlmkhlgclbfaa
open Go.RowKit
set_option maxRecDepth 100000
set_option maxHeartbeats 400000

theorem tyJob : TyS Try.prog 86 106 (.agg #[.int .i64 0, .int .i64 0, .int .i64 0, .int .i64 0, .bool false, .bool false]) 6 40 := ⟨Try.underlying86, info_of (by kernel_rfl), rfl, by decide⟩

theorem cloneJob (xs : List TJob) (A : Option Addr) (c : Nat) (B : Nat) (w : World) (hB : B ≤ w.heap.size) (hs : Sl cJob (Low B) w A c xs) (hb : xs.length * 40 ≤ 140737488355328) :
    Calls Try.prog 139 #[.slice A xs.length c] w (RetRow 106 6 xs.length (xs.flatMap TJob.cells) w) := by
  have hm : xs.length ≤ maxLen := Nat.le_trans hs.cap hs.max
  cases A with
  | none =>
    have h0 : xs = [] := List.eq_nil_of_length_eq_zero (by have := hs.nil rfl; have := hs.cap; omega)
    subst h0
    have hq := fun w => Lib.run_eql_slice_nil (P := Try.prog) w 86 106 none 0 c 0 0 Try.underlying86
    go_enter Try.func139, Try.ntmps139
    go_wp2
    go_ret
    exact ⟨_, _, rfl, World.ownsRow_nil _ _ _ _, Below.refl _ _⟩
  | some ad =>
    have hq := fun w => Lib.run_eql_slice_nil (P := Try.prog) w 86 106 (some ad) xs.length c 0 0 Try.underlying86
    have hsrc1 := Lib.hid ((hs.next hB (w' := w.alloc (.cells #[] 106)) byB).src (f := TJob.cells))
    clear hs
    have ho := World.ownsRow_made w (base := w.heap.size) (e := 106) (size := 6) #[] 0 (Nat.le_refl _) (by unfold maxLen; omega) rfl
    go_enter Try.func139, Try.ntmps139
    go_wp2_with (at_builtin; refine wpList_app rfl (.tmp 5) (.tmp 6) _ rfl w.heap.size tyJob _ 0 [] (by rfl) ho (some ad) xs.length c (xs.flatMap TJob.cells) (by rfl) hsrc1.out (one_job _) ?_ ?_ ?_ ?_; (omega); (omega); (simp); intro A1 c1 w1 hown1 hg1 hat1)
    go_ret
    simp only [Nat.zero_add, List.nil_append] at hown1
    exact ⟨A1, c1, by simp, hown1, grown_below byB (by simp) ho hg1⟩
end Go.Proofs.Ytinlmkhlgclbfaa
end

section
namespace Go.Proofs.Ytinlmkhlgclbfaa
open Go.RowKit
set_option maxRecDepth 100000
set_option maxHeartbeats 400000

theorem tyEv : TyS Try.prog 88 144 (.agg #[.int .i64 0, .int .i64 0, .int .i64 0, .int .i64 0]) 4 32 := ⟨Try.underlying88, info_of (by kernel_rfl), rfl, by decide⟩

theorem cloneEv (xs : List TEv) (A : Option Addr) (c : Nat) (B : Nat) (w : World) (hB : B ≤ w.heap.size) (hs : Sl cEv (Low B) w A c xs) (hb : xs.length * 32 ≤ 140737488355328) :
    Calls Try.prog 140 #[.slice A xs.length c] w (RetRow 144 4 xs.length (xs.flatMap TEv.cells) w) := by
  have hm : xs.length ≤ maxLen := Nat.le_trans hs.cap hs.max
  cases A with
  | none =>
    have h0 : xs = [] := List.eq_nil_of_length_eq_zero (by have := hs.nil rfl; have := hs.cap; omega)
    subst h0
    have hq := fun w => Lib.run_eql_slice_nil (P := Try.prog) w 88 144 none 0 c 0 0 Try.underlying88
    go_enter Try.func140, Try.ntmps140
    go_wp2
    go_ret
    exact ⟨_, _, rfl, World.ownsRow_nil _ _ _ _, Below.refl _ _⟩
  | some ad =>
    have hq := fun w => Lib.run_eql_slice_nil (P := Try.prog) w 88 144 (some ad) xs.length c 0 0 Try.underlying88
    have hsrc1 := Lib.hid ((hs.next hB (w' := w.alloc (.cells #[] 144)) byB).src (f := TEv.cells))
    clear hs
    have ho := World.ownsRow_made w (base := w.heap.size) (e := 144) (size := 4) #[] 0 (Nat.le_refl _) (by unfold maxLen; omega) rfl
    go_enter Try.func140, Try.ntmps140
    go_wp2_with (at_builtin; refine wpList_app rfl (.tmp 5) (.tmp 6) _ rfl w.heap.size tyEv _ 0 [] (by rfl) ho (some ad) xs.length c (xs.flatMap TEv.cells) (by rfl) hsrc1.out (one_ev _) ?_ ?_ ?_ ?_; (omega); (omega); (simp); intro A1 c1 w1 hown1 hg1 hat1)
    go_ret
    simp only [Nat.zero_add, List.nil_append] at hown1
    exact ⟨A1, c1, by simp, hown1, grown_below byB (by simp) ho hg1⟩
end Go.Proofs.Ytinlmkhlgclbfaa
end

section
namespace Go.Proofs.Ytinlmkhlgclbfaa
open Go.RowKit
set_option maxRecDepth 100000
set_option maxHeartbeats 400000

/-- what a function value handed to IndexFunc must do at each element -/
def TellsWay (P : Program) (f : FuncId) (cap : Array Value) (xs : List TWay) (I : Nat → Prop) (p : Nat → Bool) (w : World) : Prop :=
  ∀ k, k < xs.length → ∀ w', Below w.heap.size w w' → Calls P f (#[.agg #[.int .i64 (nth xs k).line, .bool (nth xs k).dirty]] ++ cap) w' fun e w'' => e = .returned (.bool (p k)) ∧ Below w'.heap.size w' w''

theorem indexWay (xs : List TWay) (A : Option Addr) (c : Nat) (f : FuncId) (cap : Array Value) (p : Nat → Bool) (B : Nat) (w : World) (hB : B ≤ w.heap.size)
   (hs : Sl cWay (Low B) w A c xs) (he : Enters Try.prog f) (hf : TellsWay Try.prog f cap xs (Low B) p w) :
    Calls Try.prog 108 #[.slice A xs.length c, .func (.func f) #[] cap] w fun e w' => e = .returned (.int .i64 (findI xs.length p)) ∧ Below w.heap.size w w' := by
  have hm : xs.length ≤ maxLen := Nat.le_trans hs.cap hs.max
  unfold maxLen at hm
  unfold Enters at he
  go_enter Try.func108, Try.ntmps108
  go_wp2
  go_loopw [5, 8] (fun _ i wr => ∃ k : Nat, k ≤ xs.length ∧ i = .int .i64 k ∧ Hid (∀ j, j < k → p j = false) ∧ Below w.heap.size w wr) (fun _ i _ => xs.length - (intOf i).toNat)
  case atStart => exact ⟨0, Nat.zero_le _, rfl, fun j hj => by omega, Below.refl _ _⟩
  case round =>
    obtain ⟨k, hk, rfl, hp, hbw⟩ := hrel
    by_cases hlt : k < xs.length
    · obtain ⟨b, o, rfl, hI, hc0, hc1⟩ := (hs.next hB hbw).at_way hlt
      go_wp2_with (refine (hf k hlt wr hbw).mono ?_; rintro e w1 ⟨rfl, hb1⟩)
      · have h1 : p k = true := by assumption
        go_ret
        rw [findI_hit hlt hp.out h1]
        exact ⟨rfl, hbw.trans (hb1.mono hbw.size)⟩
      · have h1 : p k = false := by assumption
        go_roundw
        case rel => exact ⟨k + 1, by omega, by go_num, fun j hj => by
          by_cases e : j = k
          · subst e; exact h1
          · exact hp.out j (by omega), hbw.trans (hb1.mono hbw.size)⟩
        case measure => simp [intOf]; omega
    · go_wp2
      go_ret
      rw [findI_none fun j hj => hp.out j (by omega)]
      exact ⟨rfl, hbw⟩

theorem containsWay (xs : List TWay) (A : Option Addr) (c : Nat) (f : FuncId) (cap : Array Value) (p : Nat → Bool) (B : Nat) (w : World) (hB : B ≤ w.heap.size)
   (hs : Sl cWay (Low B) w A c xs) (he : Enters Try.prog f) (hf : TellsWay Try.prog f cap xs (Low B) p w) :
    Calls Try.prog 111 #[.slice A xs.length c, .func (.func f) #[] cap] w fun e w' => e = .returned (.bool (anyI xs.length p)) ∧ Below w.heap.size w w' := by
  have H := Lib.hid (indexWay xs A c f cap p B w hB hs he hf)
  clear hs he hf
  go_enter Try.func111, Try.ntmps111
  go_wp2_with (go_at_call 108; refine H.out.mono ?_; rintro e w1 ⟨rfl, hb1⟩)
  go_ret
  exact ⟨ret_bool (by rw [← findI_any]), hb1⟩
end Go.Proofs.Ytinlmkhlgclbfaa
end

section
namespace Go.Proofs.Ytinlmkhlgclbfaa
open Go.RowKit
set_option maxRecDepth 100000
set_option maxHeartbeats 400000

/-- what a function value handed to IndexFunc must do at each element -/
def TellsWays (P : Program) (f : FuncId) (cap : Array Value) (xs : List (List TWay)) (I : Nat → Prop) (p : Nat → Bool) (w : World) : Prop :=
  ∀ k, k < xs.length → ∀ w', Below w.heap.size w w' → ∀ A' c', Sl cWay I w' A' c' (nth xs k) → Calls P f (#[.slice A' (nth xs k).length c'] ++ cap) w' fun e w'' => e = .returned (.bool (p k)) ∧ Below w'.heap.size w' w''

theorem indexWays (xs : List (List TWay)) (A : Option Addr) (c : Nat) (f : FuncId) (cap : Array Value) (p : Nat → Bool) (B : Nat) (w : World) (hB : B ≤ w.heap.size)
   (hs : Sl cWay.slice (Low B) w A c xs) (he : Enters Try.prog f) (hf : TellsWays Try.prog f cap xs (Low B) p w) :
    Calls Try.prog 110 #[.slice A xs.length c, .func (.func f) #[] cap] w fun e w' => e = .returned (.int .i64 (findI xs.length p)) ∧ Below w.heap.size w w' := by
  have hm : xs.length ≤ maxLen := Nat.le_trans hs.cap hs.max
  unfold maxLen at hm
  unfold Enters at he
  go_enter Try.func110, Try.ntmps110
  go_wp2
  go_loopw [5, 8] (fun _ i wr => ∃ k : Nat, k ≤ xs.length ∧ i = .int .i64 k ∧ Hid (∀ j, j < k → p j = false) ∧ Below w.heap.size w wr) (fun _ i _ => xs.length - (intOf i).toNat)
  case atStart => exact ⟨0, Nat.zero_le _, rfl, fun j hj => by omega, Below.refl _ _⟩
  case round =>
    obtain ⟨k, hk, rfl, hp, hbw⟩ := hrel
    by_cases hlt : k < xs.length
    · obtain ⟨b, o, A', c', rfl, hI, hcell, hin⟩ := (hs.next hB hbw).at_slice hlt
      go_wp2_with (refine (hf k hlt wr hbw A' c' hin).mono ?_; rintro e w1 ⟨rfl, hb1⟩)
      · have h1 : p k = true := by assumption
        go_ret
        rw [findI_hit hlt hp.out h1]
        exact ⟨rfl, hbw.trans (hb1.mono hbw.size)⟩
      · have h1 : p k = false := by assumption
        go_roundw
        case rel => exact ⟨k + 1, by omega, by go_num, fun j hj => by
          by_cases e : j = k
          · subst e; exact h1
          · exact hp.out j (by omega), hbw.trans (hb1.mono hbw.size)⟩
        case measure => simp [intOf]; omega
    · go_wp2
      go_ret
      rw [findI_none fun j hj => hp.out j (by omega)]
      exact ⟨rfl, hbw⟩

theorem containsWays (xs : List (List TWay)) (A : Option Addr) (c : Nat) (f : FuncId) (cap : Array Value) (p : Nat → Bool) (B : Nat) (w : World) (hB : B ≤ w.heap.size)
   (hs : Sl cWay.slice (Low B) w A c xs) (he : Enters Try.prog f) (hf : TellsWays Try.prog f cap xs (Low B) p w) :
    Calls Try.prog 74 #[.slice A xs.length c, .func (.func f) #[] cap] w fun e w' => e = .returned (.bool (anyI xs.length p)) ∧ Below w.heap.size w w' := by
  have H := Lib.hid (indexWays xs A c f cap p B w hB hs he hf)
  clear hs he hf
  go_enter Try.func74, Try.ntmps74
  go_wp2_with (go_at_call 110; refine H.out.mono ?_; rintro e w1 ⟨rfl, hb1⟩)
  go_ret
  exact ⟨ret_bool (by rw [← findI_any]), hb1⟩
end Go.Proofs.Ytinlmkhlgclbfaa
end
