/-
  MailB: contracts of slices.Clone, Grow, Concat at []int; of mail's Come, Take, Commit, Receive; of the reference's SameInts, SameRing, CheckRing, CommitOf, ReceiveOf.
-/
import Derived.Test.YtinlmkhlgclbfaaMailA
import Derived.Test.YtinlmkhlgclbfaaMem
namespace Go.Proofs.Ytinlmkhlgclbfaa
open Go.RowKit
set_option maxRecDepth 100000
set_option maxHeartbeats 400000

theorem tyInt : TyS Try.prog 22 3 (.int .i64 0) 1 8 := ⟨Try.underlying22, info_of (by kernel_rfl), rfl, by decide⟩

theorem refCheckRing (vs : List Int) (lost size : Int) (A : Option Addr) (c : Nat) (B : Nat) (w : World) (hB : B ≤ w.heap.size) (hs : Sl cInt (Low B) w A c vs) :
    Calls Try.prog 15 #[.agg #[.slice A vs.length c, .int .i64 lost], .int .i64 size] w fun e w' => e = .returned (.int .i64 (checkRing vs lost size)) ∧ Below w.heap.size w w' := by
  have hm : vs.length ≤ maxLen := Nat.le_trans hs.cap hs.max
  unfold maxLen at hm
  have H := fun W (h : Below w.heap.size w W) => refAreValues vs A c B W (Nat.le_trans hB h.size) (hs.next hB h)
  clear hs
  have hb0 : Below w.heap.size w (w.alloc (.cells #[.slice A vs.length c, .int .i64 lost] 24)) := (by repeat (first | with_reducible exact Below.refl _ _ | with_reducible assumption | (with_reducible refine Below.drew ?_) | (with_reducible refine Below.alloc ?_ ?_ _; rotate_left; (first | omega | (simp <;> omega))) | (with_reducible refine Below.setCell ?_ ?_ _; rotate_left; (first | omega | (simp <;> omega))) | (with_reducible refine below_drewN ?_ _) | (refine Below.trans ?_ (Below.mono (by with_reducible assumption) (by first | omega | (simp <;> omega))))))
  go_enter Try.func15, Try.ntmps15
  go_wp2_with (first | (go_at_call 65; refine (refBetween _ _ _ _).mono ?_; rintro e w' ⟨rfl, rfl⟩) | (go_at_call 16; refine (H _ hb0).mono ?_; rintro e w1 ⟨rfl, rfl⟩))
  all_goals go_ret
  all_goals refine ⟨ret_int ?_, hb0⟩
  all_goals simp_all [checkRing]

theorem refSameInts (xs ys : List Int) (A A' : Option Addr) (c c' : Nat) (B : Nat) (w : World) (hB : B ≤ w.heap.size) (hs : Sl cInt (Low B) w A c xs) (hs' : Sl cInt (Low B) w A' c' ys) :
    Calls Try.prog 23 #[.slice A xs.length c, .slice A' ys.length c'] w fun e w' => e = .returned (.bool (decide (xs = ys))) ∧ Below w.heap.size w w' := by
  have hm : xs.length ≤ maxLen := Nat.le_trans hs.cap hs.max
  have hm' : ys.length ≤ maxLen := Nat.le_trans hs'.cap hs'.max
  unfold maxLen at hm hm'
  by_cases hl : xs.length = ys.length
  · have hlb : (((xs.length : Nat) : Int) != ((ys.length : Nat) : Int)) = false := by simp [hl]
    have HL := Lib.hid hl
    clear hl
    go_enter Try.func23, Try.ntmps23
    go_wp2
    go_loopw [5] (fun i wr => ∃ k : Nat, k ≤ xs.length ∧ i = .int .i64 k ∧ Hid (∀ j, j < k → nth xs j = nth ys j) ∧ Below w.heap.size w wr) (fun i _ => xs.length - (intOf i).toNat)
    case atStart => exact ⟨0, Nat.zero_le _, rfl, (fun j hj => by omega), Below.refl _ _⟩
    case round =>
      obtain ⟨k, hk, rfl, hp, hbw⟩ := hrel
      by_cases hlt : k < xs.length
      · have hlt' : k < ys.length := by have := HL.out; omega
        obtain ⟨b, o, rfl, hI, hcell⟩ := (hs.next hB hbw).at_int hlt
        obtain ⟨b', o', rfl, hI', hcell'⟩ := (hs'.next hB hbw).at_int hlt'
        have h0 : (0 : Int) ≤ k := by omega
        have h1 : (k : Int) < xs.length := by omega
        have h2 : (k : Int) < ys.length := by omega
        go_wp2_with fail
        go_quiet (fail)
        go_wp2
        · have hne : (nth xs k != nth ys k) = true := by assumption
          go_ret
          refine ⟨ret_bool ?_, below_drewN hbw _⟩
          rw [eq_comm, decide_eq_false_iff_not]
          intro e; subst e; simp at hne
        · have hne : (nth xs k != nth ys k) = false := by assumption
          go_roundw
          case rel => exact ⟨k + 1, by omega, by go_num, (fun j hj => by
            by_cases e : j = k
            · subst e; simpa using hne
            · exact hp.out j (by omega)), below_drewN hbw _⟩
          case measure => simp [intOf]; omega
      · go_wp2
        go_ret
        refine ⟨ret_bool ?_, hbw⟩
        rw [eq_comm, decide_eq_true_iff]
        refine List.ext_getElem HL.out fun j h1 h2 => ?_
        rw [← nth_eq h1, ← nth_eq h2]
        exact hp.out j (by omega)
  · have hlb : (((xs.length : Nat) : Int) != ((ys.length : Nat) : Int)) = true := by simp; omega
    have HL := Lib.hid hl
    clear hl
    go_enter Try.func23, Try.ntmps23
    go_wp2
    go_ret
    refine ⟨ret_bool ?_, Below.refl _ _⟩
    rw [eq_comm, decide_eq_false_iff_not]
    intro e
    exact HL.out (by rw [e])

theorem refSameRing (xs ys : List Int) (lx ly : Int) (A A' : Option Addr) (c c' : Nat) (B : Nat) (w : World) (hB : B ≤ w.heap.size) (hs : Sl cInt (Low B) w A c xs) (hs' : Sl cInt (Low B) w A' c' ys) :
    Calls Try.prog 67 #[.agg #[.slice A xs.length c, .int .i64 lx], .agg #[.slice A' ys.length c', .int .i64 ly]] w fun e w' => e = .returned (.bool (decide (lx = ly) && decide (xs = ys))) ∧ Below w.heap.size w w' := by
  have H := fun W (h : Below w.heap.size w W) => refSameInts xs ys A A' c c' B W (Nat.le_trans hB h.size) (hs.next hB h) (hs'.next hB h)
  clear hs hs'
  by_cases hl : lx = ly
  · have hlb : (lx == ly) = true := by simp [hl]
    have HL := Lib.hid hl
    clear hl
    go_enter Try.func67, Try.ntmps67
    go_wp2_with (go_at_call 23; refine (H _ (by repeat (first | with_reducible exact Below.refl _ _ | with_reducible assumption | (with_reducible refine Below.drew ?_) | (with_reducible refine Below.alloc ?_ ?_ _; rotate_left; (first | omega | (simp <;> omega))) | (with_reducible refine Below.setCell ?_ ?_ _; rotate_left; (first | omega | (simp <;> omega))) | (with_reducible refine below_drewN ?_ _) | (refine Below.trans ?_ (Below.mono (by with_reducible assumption) (by first | omega | (simp <;> omega))))))).mono ?_; rintro e w1 ⟨rfl, hb1⟩)
    go_ret
    refine ⟨ret_bool (by simp [HL.out]), ?_⟩
    exact Below.trans (by repeat (first | with_reducible exact Below.refl _ _ | with_reducible assumption | (with_reducible refine Below.drew ?_) | (with_reducible refine Below.alloc ?_ ?_ _; rotate_left; (first | omega | (simp <;> omega))) | (with_reducible refine Below.setCell ?_ ?_ _; rotate_left; (first | omega | (simp <;> omega))) | (with_reducible refine below_drewN ?_ _) | (refine Below.trans ?_ (Below.mono (by with_reducible assumption) (by first | omega | (simp <;> omega)))))) (hb1.mono (by simp; omega))
  · have hlb : (lx == ly) = false := by simp [hl]
    have HL := Lib.hid hl
    clear hl
    go_enter Try.func67, Try.ntmps67
    go_wp2
    go_ret
    exact ⟨ret_bool (by simp [HL.out]), (by repeat (first | with_reducible exact Below.refl _ _ | with_reducible assumption | (with_reducible refine Below.drew ?_) | (with_reducible refine Below.alloc ?_ ?_ _; rotate_left; (first | omega | (simp <;> omega))) | (with_reducible refine Below.setCell ?_ ?_ _; rotate_left; (first | omega | (simp <;> omega))) | (with_reducible refine below_drewN ?_ _) | (refine Below.trans ?_ (Below.mono (by with_reducible assumption) (by first | omega | (simp <;> omega))))))⟩

/-- a new row of the call's own comes back; nothing that was has turned -/
def RetRow (e k n : Nat) (cells : List Value) (w : World) (en : Ending) (w' : World) : Prop := ∃ A c, en = .returned (.slice A n c) ∧ w'.ownsRow w.heap.size e k (.slice A n c) n cells ∧ Below w.heap.size w w'

theorem cloneInt (xs : List Int) (A : Option Addr) (c : Nat) (B : Nat) (w : World) (hB : B ≤ w.heap.size) (hs : Sl cInt (Low B) w A c xs) (hb : xs.length * 8 ≤ 140737488355328) :
    Calls Try.prog 106 #[.slice A xs.length c] w (RetRow 3 1 xs.length (xs.flatMap fun n => [Value.int .i64 n]) w) := by
  have hm : xs.length ≤ maxLen := Nat.le_trans hs.cap hs.max
  cases A with
  | none =>
    have h0 : xs = [] := List.eq_nil_of_length_eq_zero (by have := hs.nil rfl; have := hs.cap; omega)
    subst h0
    have hq := fun w => Lib.run_eql_slice_nil (P := Try.prog) w 22 3 none 0 c 0 0 Try.underlying22
    go_enter Try.func106, Try.ntmps106
    go_wp2
    go_ret
    exact ⟨_, _, rfl, World.ownsRow_nil _ _ _ _, Below.refl _ _⟩
  | some ad =>
    have hq := fun w => Lib.run_eql_slice_nil (P := Try.prog) w 22 3 (some ad) xs.length c 0 0 Try.underlying22
    have hsrc1 := Lib.hid ((hs.next hB (w' := w.alloc (.cells #[] 3)) (by repeat (first | with_reducible exact Below.refl _ _ | with_reducible assumption | (with_reducible refine Below.drew ?_) | (with_reducible refine Below.alloc ?_ ?_ _; rotate_left; (first | omega | (simp <;> omega))) | (with_reducible refine Below.setCell ?_ ?_ _; rotate_left; (first | omega | (simp <;> omega))) | (with_reducible refine below_drewN ?_ _) | (refine Below.trans ?_ (Below.mono (by with_reducible assumption) (by first | omega | (simp <;> omega))))))).src (f := fun n => [Value.int .i64 n]))
    clear hs
    have ho := World.ownsRow_made w (base := w.heap.size) (e := 3) (size := 1) #[] 0 (Nat.le_refl _) (by unfold maxLen; omega) rfl
    go_enter Try.func106, Try.ntmps106
    go_wp2_with (at_builtin; refine wpList_app rfl (.tmp 5) (.tmp 6) _ rfl w.heap.size tyInt _ 0 [] (by rfl) ho (some ad) xs.length c (xs.flatMap fun n => [Value.int .i64 n]) (by rfl) hsrc1.out (one_int _) ?_ ?_ ?_ ?_; (omega); (omega); (simp); intro A1 c1 w1 hown1 hg1 hat1)
    go_ret
    simp only [Nat.zero_add, List.nil_append] at hown1
    exact ⟨A1, c1, by simp, hown1, grown_below (by repeat (first | with_reducible exact Below.refl _ _ | with_reducible assumption | (with_reducible refine Below.drew ?_) | (with_reducible refine Below.alloc ?_ ?_ _; rotate_left; (first | omega | (simp <;> omega))) | (with_reducible refine Below.setCell ?_ ?_ _; rotate_left; (first | omega | (simp <;> omega))) | (with_reducible refine below_drewN ?_ _) | (refine Below.trans ?_ (Below.mono (by with_reducible assumption) (by first | omega | (simp <;> omega)))))) (by simp) ho hg1⟩
end Go.Proofs.Ytinlmkhlgclbfaa
