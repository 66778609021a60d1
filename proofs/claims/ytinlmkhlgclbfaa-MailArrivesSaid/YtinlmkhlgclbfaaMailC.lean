/-
  MailC: contracts of slices.Grow and Concat at []int, mail.Come, mail.Take.
-/
import Derived.Test.YtinlmkhlgclbfaaMailB
namespace Go.Proofs.Ytinlmkhlgclbfaa
open Go.RowKit
set_option maxRecDepth 100000
set_option maxHeartbeats 400000

theorem growNil (n : Nat) (w : World) (hn : n * 8 ≤ 140737488355328) :
    Calls Try.prog 129 #[.slice none 0 0, .int .i64 n] w (RetRow 3 1 0 [] w) := by
  by_cases h0 : n = 0
  · subst h0
    go_enter Try.func129, Try.ntmps129
    go_wp2
    go_ret
    exact ⟨_, _, rfl, World.ownsRow_nil _ _ _ _, Below.refl _ _⟩
  · obtain ⟨i, hi, hz, hsz, hby⟩ := info_of (P := Try.prog) (e := 3) (z := .int .i64 0) (size := 1) (bytes := 8) (by kernel_rfl)
    have hr := Lib.run_append_nil_zeros (P := Try.prog) w 22 3 22 3 i (.int .i64 0) .i64 .i64 Try.underlying22 Try.underlying3 hi hz n (by omega) (by omega) (by omega) (by rw [hby]; omega)
    have hge := grownCap_ge w n 0 3
    have hle := grownCap_le_maxLen w n 0 3 (by unfold maxLen; omega)
    generalize hcap : grownCap w n 0 3 = cap at hr hge hle
    clear hcap
    generalize hcells : (Builtin.zeroCells (Value.int .i64 0).cells n ++ Builtin.zeroCells (Value.int .i64 0).cells (cap - n)) = cells at hr
    have hsize : cells.size = cap := by
      rw [← hcells, Array.size_append, size_zeroCells, size_zeroCells]
      show n * 1 + (cap - n) * 1 = cap
      omega
    clear hcells
    have Hr := Lib.hid hr
    have Hs := Lib.hid hsize
    clear hr hsize hi hz hsz hby
    have hpos : (0 : Int) < n := by omega
    go_enter Try.func129, Try.ntmps129
    go_wp2_with (at_builtin; refine Lib.wpList_append_run _ rfl _ _ _ _ rfl _ _ rfl rfl _ _ Hr.out ?_)
    go_ret
    refine ⟨_, _, rfl, ⟨by simp, .inr ⟨w.heap.size, cap, cells, rfl, Nat.le_refl _, heap_alloc_new w.drew _, Nat.zero_le _, hle, by rw [Hs.out]; omega, by simp⟩⟩, (by repeat (first | with_reducible exact Below.refl _ _ | with_reducible assumption | (with_reducible refine Below.drew ?_) | (with_reducible refine Below.alloc ?_ ?_ _; rotate_left; (first | omega | (simp <;> omega))) | (with_reducible refine Below.setCell ?_ ?_ _; rotate_left; (first | omega | (simp <;> omega))) | (with_reducible refine below_drewN ?_ _) | (refine Below.trans ?_ (Below.mono (by with_reducible assumption) (by first | omega | (simp <;> omega))))))⟩

def catLen (xss : List (List Int)) (k : Nat) : Nat := (xss.take k).flatten.length
theorem catLen_succ (xss : List (List Int)) (k : Nat) (h : k < xss.length) : catLen xss (k + 1) = catLen xss k + (nth xss k).length := by
  unfold catLen; rw [nth_eq h, List.take_succ_eq_append_getElem h, List.flatten_append, List.length_append]; simp
theorem catLen_le (xss : List (List Int)) (k : Nat) : catLen xss k ≤ xss.flatten.length := by
  unfold catLen
  have : xss.flatten = (xss.take k).flatten ++ (xss.drop k).flatten := by rw [← List.flatten_append, List.take_append_drop]
  rw [this, List.length_append]; omega

def catCells (xss : List (List Int)) (k : Nat) : List Value := (xss.take k).flatten.flatMap (fun n => [Value.int .i64 n])
theorem catCells_succ (xss : List (List Int)) (k : Nat) (h : k < xss.length) : catCells xss (k + 1) = catCells xss k ++ (nth xss k).flatMap (fun n => [Value.int .i64 n]) := by
  unfold catCells; rw [nth_eq h, List.take_succ_eq_append_getElem h, List.flatten_append, List.flatMap_append]; simp

theorem concatInt (xss : List (List Int)) (A : Option Addr) (c : Nat) (B : Nat) (w : World) (hB : B ≤ w.heap.size) (hs : Sl cInt.slice (Low B) w A c xss) (hb : xss.flatten.length * 8 ≤ 140737488355328) :
    Calls Try.prog 105 #[.slice A xss.length c] w (RetRow 3 1 xss.flatten.length (xss.flatten.flatMap fun n => [Value.int .i64 n]) w) := by
  have hm : xss.length ≤ maxLen := Nat.le_trans hs.cap hs.max
  unfold maxLen at hm
  have hle := catLen_le xss
  have Hle := Lib.hid hle
  clear hle
  have hG := Lib.hid (growNil (catLen xss xss.length))
  go_enter Try.func105, Try.ntmps105
  go_wp2
  go_loop [3, 11] (fun sum i => ∃ k : Nat, k ≤ xss.length ∧ i = .int .i64 k ∧ sum = .int .i64 (catLen xss k)) (fun _ i => xss.length - (intOf i).toNat)
  case atStart => exact ⟨0, Nat.zero_le _, rfl, rfl⟩
  case round =>
    obtain ⟨k, hk, rfl, rfl⟩ := hrel
    by_cases hlt : k < xss.length
    · obtain ⟨b, o, A', c', rfl, hI, hcell, _⟩ := hs.at_slice hlt
      have h1 := Hle.out (k + 1)
      have hsucc := Lib.hid (catLen_succ xss k hlt)
      have h2 : catLen xss k + (nth xss k).length ≤ 100000000000000 := by rw [← hsucc.out]; omega
      clear h1
      go_wp2
      go_round
      case rel => exact ⟨k + 1, by omega, by go_num, by rw [hsucc.out]; go_num⟩
      case measure => simp [intOf]; omega
    · obtain rfl : k = xss.length := by omega
      have hall := Lib.hid (show catLen xss xss.length = xss.flatten.length by simp only [catLen, List.take_length])
      have hallc := Lib.hid (show catCells xss xss.length = xss.flatten.flatMap (fun n => [Value.int .i64 n]) by simp only [catCells, List.take_length])
      go_wp2_with (go_at_call 129; refine (hG.out _ ?_).mono ?_; (rw [hall.out]; exact hb); rintro e w1 ⟨A1, c1, rfl, hown, hbw0⟩)
      go_loopw [6, 27] (fun v i wr => ∃ (k : Nat) (A1 : Option Addr) (c1 : Nat), k ≤ xss.length ∧ i = .int .i64 k ∧ v = .slice A1 (catLen xss k) c1 ∧ wr.ownsRow w.heap.size 3 1 (.slice A1 (catLen xss k) c1) (catLen xss k) (catCells xss k) ∧ Below w.heap.size w wr) (fun _ i _ => xss.length - (intOf i).toNat)
      case atStart => exact ⟨0, _, _, Nat.zero_le _, rfl, rfl, hown, hbw0⟩
      case round =>
        obtain ⟨k, A1, c1, hk, rfl, rfl, hown, hbw⟩ := hrel
        by_cases hlt : k < xss.length
        · obtain ⟨b, o, A', c', rfl, hI, hcell, hin⟩ := (hs.next hB hbw).at_slice hlt
          have h1 := Hle.out (k + 1)
          have hsucc := Lib.hid (catLen_succ xss k hlt)
          have h2 : catLen xss k + (nth xss k).length ≤ xss.flatten.length := by rw [← hsucc.out]; exact h1
          clear h1
          go_wp2_with (at_builtin; refine wpList_app rfl (.tmp 31) (.tmp 32) _ rfl w.heap.size tyInt _ (catLen xss k) (catCells xss k) (by rfl) hown A' (nth xss k).length c' ((nth xss k).flatMap fun n => [Value.int .i64 n]) (by rfl) hin.src (one_int _) ?_ ?_ ?_ ?_; (unfold maxLen; omega); (omega); (exact hbw.size); intro A2 c2 w1 hown1 hg1 hat1)
          go_roundw
          case rel => exact ⟨k + 1, A2, c2, by omega, by go_num, by rw [hsucc.out], by rw [hsucc.out, catCells_succ xss k hlt]; exact hown1, grown_below hbw hbw.size hown hg1⟩
          case measure => simp [intOf]; omega
        · obtain rfl : k = xss.length := by omega
          go_wp2
          go_ret
          rw [hall.out, hallc.out] at hown
          rw [hall.out]
          exact ⟨_, _, rfl, hown, hbw⟩
end Go.Proofs.Ytinlmkhlgclbfaa
