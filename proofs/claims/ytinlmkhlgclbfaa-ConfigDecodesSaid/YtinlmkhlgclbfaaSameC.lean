/-
  SameC: contract of the reference's SameConfig, for two configs of the same data.
-/
import Derived.Test.YtinlmkhlgclbfaaConfA
import Derived.Test.YtinlmkhlgclbfaaMailB
import Derived.Test.YtinlmkhlgclbfaaNeqSlot
import Derived.Test.YtinlmkhlgclbfaaNeqChan
import Derived.Test.YtinlmkhlgclbfaaNeqTask
namespace Go.Proofs.Ytinlmkhlgclbfaa
open Go.RowKit
set_option maxRecDepth 100000
set_option maxHeartbeats 1000000

set_option maxHeartbeats 8000000 in
theorem refSameConfig (c : TCfg) (S T : TCfgS) (B : Nat) (w : World) (hB : B ≤ w.heap.size) (hs : TCfg.At (Low B) w c S) (ht : TCfg.At (Low B) w c T) :
    Calls Try.prog 47 #[.agg #[.int .i64 c.sets, .int .i64 c.ways, .int .i64 c.doms, .int .i64 c.pad, .int .i64 c.quantum, .slice S.a0 c.slots.length S.n0, .slice S.a1 c.owners.length S.n1, .slice S.a2 c.chans.length S.n2, .slice S.a3 c.tasks.length S.n3], .agg #[.int .i64 c.sets, .int .i64 c.ways, .int .i64 c.doms, .int .i64 c.pad, .int .i64 c.quantum, .slice T.a0 c.slots.length T.n0, .slice T.a1 c.owners.length T.n1, .slice T.a2 c.chans.length T.n2, .slice T.a3 c.tasks.length T.n3]] w fun e w' => e = .returned (.bool true) ∧ Below w.heap.size w w' := by
  obtain ⟨q0, q1, q2, q3, q4, sl, ow, ch, tk⟩ := c
  dsimp only at hs ht ⊢
  (obtain ⟨a0, n0, a1, n1, a2, n2, a3, n3⟩ := S; obtain ⟨hs0, hs1, hs2, hs3⟩ := hs; dsimp only at hs0 hs1 hs2 hs3 ⊢)
  obtain ⟨b0, m0, b1, m1, b2, m2, b3, m3⟩ := T
  obtain ⟨ht0, ht1, ht2, ht3⟩ := ht
  dsimp only at ht0 ht1 ht2 ht3 ⊢
  have HI := Lib.hid (fun W (h : Below w.heap.size w W) => (refSameInts ow ow a1 b1 n1 m1 B W (Nat.le_trans hB h.size) (hs1.next hB h) (ht1.next hB h)))
  have k0 : sl.length ≤ maxLen := Nat.le_trans hs0.cap hs0.max
  have k2 : ch.length ≤ maxLen := Nat.le_trans hs2.cap hs2.max
  have k3 : tk.length ≤ maxLen := Nat.le_trans hs3.cap hs3.max
  unfold maxLen at k0 k2 k3
  clear hs1 ht1
  go_enter Try.func47, Try.ntmps47
  go_wp2_with ((go_at_call 23; refine (HI.out _ (by repeat (first | with_reducible exact Below.refl _ _ | with_reducible assumption | (with_reducible refine Below.drew ?_) | (with_reducible refine Below.alloc ?_ ?_ _; rotate_left; (first | omega | (simp <;> omega))) | (with_reducible refine Below.setCell ?_ ?_ _; rotate_left; (first | omega | (simp <;> omega))) | (with_reducible refine below_drewN ?_ _) | (refine Below.trans ?_ (Below.mono (by with_reducible assumption) (by first | omega | (simp <;> omega))))))).mono ?_; rintro e w1 ⟨rfl, hb_w1⟩; refine have_then (P := w1.heap[w.heap.size]? = some (.cells #[.int .i64 q0, .int .i64 q1, .int .i64 q2, .int .i64 q3, .int .i64 q4, .slice a0 sl.length n0, .slice a1 ow.length n1, .slice a2 ch.length n2, .slice a3 tk.length n3] 63)) ?_ (fun p_w1 => ?_); (focus (refine (hb_w1.block _ ?_).trans ?_; (first | omega | (simp <;> omega)); (repeat (first | with_reducible exact heap_set2 (by with_reducible assumption) | with_reducible exact heap_set2 (heapAt _ _ _ rfl) | with_reducible exact heap_set1 (by with_reducible assumption) | with_reducible exact heap_set1 (heapAt _ _ _ rfl) | with_reducible assumption | (with_reducible refine heapAt _ _ _ ?_; first | rfl | (first | omega | (simp <;> omega))) | (with_reducible refine heap_drew ?_) | (with_reducible refine heap_drewN ?_) | (with_reducible refine (heap_alloc_old _ _ ?_).trans ?_; (first | omega | (simp <;> omega))) | (with_reducible refine heap_set_far ?_ ?_; rotate_left; (first | omega | (simp <;> omega))))); done)); obtain ⟨cp_w1, fp_w1, zp_w1⟩ := blk p_w1; refine have_then (P := w1.heap[w.heap.size + 1]? = some (.cells #[.int .i64 q0, .int .i64 q1, .int .i64 q2, .int .i64 q3, .int .i64 q4, .slice b0 sl.length m0, .slice b1 ow.length m1, .slice b2 ch.length m2, .slice b3 tk.length m3] 63)) ?_ (fun r_w1 => ?_); (focus (refine (hb_w1.block _ ?_).trans ?_; (first | omega | (simp <;> omega)); (repeat (first | with_reducible exact heap_set2 (by with_reducible assumption) | with_reducible exact heap_set2 (heapAt _ _ _ rfl) | with_reducible exact heap_set1 (by with_reducible assumption) | with_reducible exact heap_set1 (heapAt _ _ _ rfl) | with_reducible assumption | (with_reducible refine heapAt _ _ _ ?_; first | rfl | (first | omega | (simp <;> omega))) | (with_reducible refine heap_drew ?_) | (with_reducible refine heap_drewN ?_) | (with_reducible refine (heap_alloc_old _ _ ?_).trans ?_; (first | omega | (simp <;> omega))) | (with_reducible refine heap_set_far ?_ ?_; rotate_left; (first | omega | (simp <;> omega))))); done)); obtain ⟨cr_w1, fr_w1, zr_w1⟩ := blk r_w1; refine have_then (P := Below w.heap.size w w1) ?_ (fun h_w1 => ?_); (focus ((repeat (first | with_reducible exact Below.refl _ _ | with_reducible assumption | (with_reducible refine Below.drew ?_) | (with_reducible refine Below.alloc ?_ ?_ _; rotate_left; (first | omega | (simp <;> omega))) | (with_reducible refine Below.setCell ?_ ?_ _; rotate_left; (first | omega | (simp <;> omega))) | (with_reducible refine below_drewN ?_ _) | (refine Below.trans ?_ (Below.mono (by with_reducible assumption) (by first | omega | (simp <;> omega)))))); done)); have s_w1 := Below.size h_w1; have t_w1 := Below.size hb_w1; (try simp at t_w1); revert hb_w1; intro hb_w1))
  go_loopw [5] (fun iv wr => ∃ i : Nat, i ≤ sl.length ∧ iv = .int .i64 i ∧ wr.heap[w.heap.size]? = some (.cells #[.int .i64 q0, .int .i64 q1, .int .i64 q2, .int .i64 q3, .int .i64 q4, .slice a0 sl.length n0, .slice a1 ow.length n1, .slice a2 ch.length n2, .slice a3 tk.length n3] 63) ∧ wr.heap[w.heap.size + 1]? = some (.cells #[.int .i64 q0, .int .i64 q1, .int .i64 q2, .int .i64 q3, .int .i64 q4, .slice b0 sl.length m0, .slice b1 ow.length m1, .slice b2 ch.length m2, .slice b3 tk.length m3] 63) ∧ Below w.heap.size w wr) (fun iv _ => sl.length - (intOf iv).toNat)
  case atStart => exact ⟨0, Nat.zero_le _, rfl, (by (repeat (first | with_reducible exact heap_set2 (by with_reducible assumption) | with_reducible exact heap_set2 (heapAt _ _ _ rfl) | with_reducible exact heap_set1 (by with_reducible assumption) | with_reducible exact heap_set1 (heapAt _ _ _ rfl) | with_reducible assumption | (with_reducible refine heapAt _ _ _ ?_; first | rfl | (first | omega | (simp <;> omega))) | (with_reducible refine heap_drew ?_) | (with_reducible refine heap_drewN ?_) | (with_reducible refine (heap_alloc_old _ _ ?_).trans ?_; (first | omega | (simp <;> omega))) | (with_reducible refine heap_set_far ?_ ?_; rotate_left; (first | omega | (simp <;> omega)))))), (by (repeat (first | with_reducible exact heap_set2 (by with_reducible assumption) | with_reducible exact heap_set2 (heapAt _ _ _ rfl) | with_reducible exact heap_set1 (by with_reducible assumption) | with_reducible exact heap_set1 (heapAt _ _ _ rfl) | with_reducible assumption | (with_reducible refine heapAt _ _ _ ?_; first | rfl | (first | omega | (simp <;> omega))) | (with_reducible refine heap_drew ?_) | (with_reducible refine heap_drewN ?_) | (with_reducible refine (heap_alloc_old _ _ ?_).trans ?_; (first | omega | (simp <;> omega))) | (with_reducible refine heap_set_far ?_ ?_; rotate_left; (first | omega | (simp <;> omega)))))), (by repeat (first | with_reducible exact Below.refl _ _ | with_reducible assumption | (with_reducible refine Below.drew ?_) | (with_reducible refine Below.alloc ?_ ?_ _; rotate_left; (first | omega | (simp <;> omega))) | (with_reducible refine Below.setCell ?_ ?_ _; rotate_left; (first | omega | (simp <;> omega))) | (with_reducible refine below_drewN ?_ _) | (refine Below.trans ?_ (Below.mono (by with_reducible assumption) (by first | omega | (simp <;> omega))))))⟩
  case round =>
    obtain ⟨i, hi, rfl, hp, hr, hbr⟩ := hrel
    obtain ⟨cp, fp, zp⟩ := blk hp
    obtain ⟨cr, fr, zr⟩ := blk hr
    have so := hbr.size
    obtain ⟨wo, rfl⟩ : ∃ wo : World, wo = wr := ⟨_, rfl⟩
    by_cases hlt : i < sl.length
    · obtain ⟨b, o, rfl, hI, hc0, hc1⟩ := (hs0.next hB hbr).at_slot hlt
      obtain ⟨b', o', rfl, hI', hd0, hd1⟩ := (ht0.next hB hbr).at_slot hlt
      have hi0 : (0 : Int) ≤ i := by omega
      have hi1 : (i : Int) < sl.length := by omega
      have hbl : b < wo.heap.size := Nat.lt_of_lt_of_le hI (Nat.le_trans hB so)
      have hbl' : b' < wo.heap.size := Nat.lt_of_lt_of_le hI' (Nat.le_trans hB so)
      have hneq := fun w => neqSlot (nth sl i) (nth sl i) w
      rw [show diffT (nth sl i) (nth sl i) = false by simp [diffT]] at hneq
      have hgd := guardSlot
      go_wp2_with fail
      go_quiet (fail)
      go_wp2_with fail
      go_roundw
      case rel => exact ⟨i + 1, by omega, by go_num, (by (repeat (first | with_reducible exact heap_set2 (by with_reducible assumption) | with_reducible exact heap_set2 (heapAt _ _ _ rfl) | with_reducible exact heap_set1 (by with_reducible assumption) | with_reducible exact heap_set1 (heapAt _ _ _ rfl) | with_reducible assumption | (with_reducible refine heapAt _ _ _ ?_; first | rfl | (first | omega | (simp <;> omega))) | (with_reducible refine heap_drew ?_) | (with_reducible refine heap_drewN ?_) | (with_reducible refine (heap_alloc_old _ _ ?_).trans ?_; (first | omega | (simp <;> omega))) | (with_reducible refine heap_set_far ?_ ?_; rotate_left; (first | omega | (simp <;> omega)))))), (by (repeat (first | with_reducible exact heap_set2 (by with_reducible assumption) | with_reducible exact heap_set2 (heapAt _ _ _ rfl) | with_reducible exact heap_set1 (by with_reducible assumption) | with_reducible exact heap_set1 (heapAt _ _ _ rfl) | with_reducible assumption | (with_reducible refine heapAt _ _ _ ?_; first | rfl | (first | omega | (simp <;> omega))) | (with_reducible refine heap_drew ?_) | (with_reducible refine heap_drewN ?_) | (with_reducible refine (heap_alloc_old _ _ ?_).trans ?_; (first | omega | (simp <;> omega))) | (with_reducible refine heap_set_far ?_ ?_; rotate_left; (first | omega | (simp <;> omega)))))), below_drewN hbr _⟩
      case measure => simp [intOf]; omega
    · obtain rfl : i = sl.length := by omega
      clear hi
      go_wp2_with fail
      go_loopw [6] (fun iv wr => ∃ i : Nat, i ≤ ch.length ∧ iv = .int .i64 i ∧ wr.heap[w.heap.size]? = some (.cells #[.int .i64 q0, .int .i64 q1, .int .i64 q2, .int .i64 q3, .int .i64 q4, .slice a0 sl.length n0, .slice a1 ow.length n1, .slice a2 ch.length n2, .slice a3 tk.length n3] 63) ∧ wr.heap[w.heap.size + 1]? = some (.cells #[.int .i64 q0, .int .i64 q1, .int .i64 q2, .int .i64 q3, .int .i64 q4, .slice b0 sl.length m0, .slice b1 ow.length m1, .slice b2 ch.length m2, .slice b3 tk.length m3] 63) ∧ Below w.heap.size w wr) (fun iv _ => ch.length - (intOf iv).toNat)
      case atStart => exact ⟨0, Nat.zero_le _, rfl, (by (repeat (first | with_reducible exact heap_set2 (by with_reducible assumption) | with_reducible exact heap_set2 (heapAt _ _ _ rfl) | with_reducible exact heap_set1 (by with_reducible assumption) | with_reducible exact heap_set1 (heapAt _ _ _ rfl) | with_reducible assumption | (with_reducible refine heapAt _ _ _ ?_; first | rfl | (first | omega | (simp <;> omega))) | (with_reducible refine heap_drew ?_) | (with_reducible refine heap_drewN ?_) | (with_reducible refine (heap_alloc_old _ _ ?_).trans ?_; (first | omega | (simp <;> omega))) | (with_reducible refine heap_set_far ?_ ?_; rotate_left; (first | omega | (simp <;> omega)))))), (by (repeat (first | with_reducible exact heap_set2 (by with_reducible assumption) | with_reducible exact heap_set2 (heapAt _ _ _ rfl) | with_reducible exact heap_set1 (by with_reducible assumption) | with_reducible exact heap_set1 (heapAt _ _ _ rfl) | with_reducible assumption | (with_reducible refine heapAt _ _ _ ?_; first | rfl | (first | omega | (simp <;> omega))) | (with_reducible refine heap_drew ?_) | (with_reducible refine heap_drewN ?_) | (with_reducible refine (heap_alloc_old _ _ ?_).trans ?_; (first | omega | (simp <;> omega))) | (with_reducible refine heap_set_far ?_ ?_; rotate_left; (first | omega | (simp <;> omega)))))), (by repeat (first | with_reducible exact Below.refl _ _ | with_reducible assumption | (with_reducible refine Below.drew ?_) | (with_reducible refine Below.alloc ?_ ?_ _; rotate_left; (first | omega | (simp <;> omega))) | (with_reducible refine Below.setCell ?_ ?_ _; rotate_left; (first | omega | (simp <;> omega))) | (with_reducible refine below_drewN ?_ _) | (refine Below.trans ?_ (Below.mono (by with_reducible assumption) (by first | omega | (simp <;> omega))))))⟩
      case round =>
        obtain ⟨i, hi, rfl, hp, hr, hbr⟩ := hrel
        obtain ⟨cp, fp, zp⟩ := blk hp
        obtain ⟨cr, fr, zr⟩ := blk hr
        have so := hbr.size
        obtain ⟨wo, rfl⟩ : ∃ wo : World, wo = wr := ⟨_, rfl⟩
        by_cases hlt : i < ch.length
        · obtain ⟨b, o, rfl, hI, hc0, hc1, hc2⟩ := (hs2.next hB hbr).at_chan hlt
          obtain ⟨b', o', rfl, hI', hd0, hd1, hd2⟩ := (ht2.next hB hbr).at_chan hlt
          have hi0 : (0 : Int) ≤ i := by omega
          have hi1 : (i : Int) < ch.length := by omega
          have hbl : b < wo.heap.size := Nat.lt_of_lt_of_le hI (Nat.le_trans hB so)
          have hbl' : b' < wo.heap.size := Nat.lt_of_lt_of_le hI' (Nat.le_trans hB so)
          have hneq := fun w => neqChan (nth ch i) (nth ch i) w
          rw [show diffT (nth ch i) (nth ch i) = false by simp [diffT]] at hneq
          have hgd := guardChan
          go_wp2_with fail
          go_quiet (fail)
          go_wp2_with fail
          go_roundw
          case rel => exact ⟨i + 1, by omega, by go_num, (by (repeat (first | with_reducible exact heap_set2 (by with_reducible assumption) | with_reducible exact heap_set2 (heapAt _ _ _ rfl) | with_reducible exact heap_set1 (by with_reducible assumption) | with_reducible exact heap_set1 (heapAt _ _ _ rfl) | with_reducible assumption | (with_reducible refine heapAt _ _ _ ?_; first | rfl | (first | omega | (simp <;> omega))) | (with_reducible refine heap_drew ?_) | (with_reducible refine heap_drewN ?_) | (with_reducible refine (heap_alloc_old _ _ ?_).trans ?_; (first | omega | (simp <;> omega))) | (with_reducible refine heap_set_far ?_ ?_; rotate_left; (first | omega | (simp <;> omega)))))), (by (repeat (first | with_reducible exact heap_set2 (by with_reducible assumption) | with_reducible exact heap_set2 (heapAt _ _ _ rfl) | with_reducible exact heap_set1 (by with_reducible assumption) | with_reducible exact heap_set1 (heapAt _ _ _ rfl) | with_reducible assumption | (with_reducible refine heapAt _ _ _ ?_; first | rfl | (first | omega | (simp <;> omega))) | (with_reducible refine heap_drew ?_) | (with_reducible refine heap_drewN ?_) | (with_reducible refine (heap_alloc_old _ _ ?_).trans ?_; (first | omega | (simp <;> omega))) | (with_reducible refine heap_set_far ?_ ?_; rotate_left; (first | omega | (simp <;> omega)))))), below_drewN hbr _⟩
          case measure => simp [intOf]; omega
        · obtain rfl : i = ch.length := by omega
          clear hi
          go_wp2_with fail
          go_loopw [7] (fun iv wr => ∃ i : Nat, i ≤ tk.length ∧ iv = .int .i64 i ∧ wr.heap[w.heap.size]? = some (.cells #[.int .i64 q0, .int .i64 q1, .int .i64 q2, .int .i64 q3, .int .i64 q4, .slice a0 sl.length n0, .slice a1 ow.length n1, .slice a2 ch.length n2, .slice a3 tk.length n3] 63) ∧ wr.heap[w.heap.size + 1]? = some (.cells #[.int .i64 q0, .int .i64 q1, .int .i64 q2, .int .i64 q3, .int .i64 q4, .slice b0 sl.length m0, .slice b1 ow.length m1, .slice b2 ch.length m2, .slice b3 tk.length m3] 63) ∧ Below w.heap.size w wr) (fun iv _ => tk.length - (intOf iv).toNat)
          case atStart => exact ⟨0, Nat.zero_le _, rfl, (by (repeat (first | with_reducible exact heap_set2 (by with_reducible assumption) | with_reducible exact heap_set2 (heapAt _ _ _ rfl) | with_reducible exact heap_set1 (by with_reducible assumption) | with_reducible exact heap_set1 (heapAt _ _ _ rfl) | with_reducible assumption | (with_reducible refine heapAt _ _ _ ?_; first | rfl | (first | omega | (simp <;> omega))) | (with_reducible refine heap_drew ?_) | (with_reducible refine heap_drewN ?_) | (with_reducible refine (heap_alloc_old _ _ ?_).trans ?_; (first | omega | (simp <;> omega))) | (with_reducible refine heap_set_far ?_ ?_; rotate_left; (first | omega | (simp <;> omega)))))), (by (repeat (first | with_reducible exact heap_set2 (by with_reducible assumption) | with_reducible exact heap_set2 (heapAt _ _ _ rfl) | with_reducible exact heap_set1 (by with_reducible assumption) | with_reducible exact heap_set1 (heapAt _ _ _ rfl) | with_reducible assumption | (with_reducible refine heapAt _ _ _ ?_; first | rfl | (first | omega | (simp <;> omega))) | (with_reducible refine heap_drew ?_) | (with_reducible refine heap_drewN ?_) | (with_reducible refine (heap_alloc_old _ _ ?_).trans ?_; (first | omega | (simp <;> omega))) | (with_reducible refine heap_set_far ?_ ?_; rotate_left; (first | omega | (simp <;> omega)))))), (by repeat (first | with_reducible exact Below.refl _ _ | with_reducible assumption | (with_reducible refine Below.drew ?_) | (with_reducible refine Below.alloc ?_ ?_ _; rotate_left; (first | omega | (simp <;> omega))) | (with_reducible refine Below.setCell ?_ ?_ _; rotate_left; (first | omega | (simp <;> omega))) | (with_reducible refine below_drewN ?_ _) | (refine Below.trans ?_ (Below.mono (by with_reducible assumption) (by first | omega | (simp <;> omega))))))⟩
          case round =>
            obtain ⟨i, hi, rfl, hp, hr, hbr⟩ := hrel
            obtain ⟨cp, fp, zp⟩ := blk hp
            obtain ⟨cr, fr, zr⟩ := blk hr
            have so := hbr.size
            obtain ⟨wo, rfl⟩ : ∃ wo : World, wo = wr := ⟨_, rfl⟩
            by_cases hlt : i < tk.length
            · obtain ⟨b, o, rfl, hI, hc0, hc1, hc2, hc3⟩ := (hs3.next hB hbr).at_task hlt
              obtain ⟨b', o', rfl, hI', hd0, hd1, hd2, hd3⟩ := (ht3.next hB hbr).at_task hlt
              have hi0 : (0 : Int) ≤ i := by omega
              have hi1 : (i : Int) < tk.length := by omega
              have hbl : b < wo.heap.size := Nat.lt_of_lt_of_le hI (Nat.le_trans hB so)
              have hbl' : b' < wo.heap.size := Nat.lt_of_lt_of_le hI' (Nat.le_trans hB so)
              have hneq := fun w => neqTask (nth tk i) (nth tk i) w
              rw [show diffT (nth tk i) (nth tk i) = false by simp [diffT]] at hneq
              have hgd := guardTask
              go_wp2_with fail
              go_quiet (fail)
              go_wp2_with fail
              go_roundw
              case rel => exact ⟨i + 1, by omega, by go_num, (by (repeat (first | with_reducible exact heap_set2 (by with_reducible assumption) | with_reducible exact heap_set2 (heapAt _ _ _ rfl) | with_reducible exact heap_set1 (by with_reducible assumption) | with_reducible exact heap_set1 (heapAt _ _ _ rfl) | with_reducible assumption | (with_reducible refine heapAt _ _ _ ?_; first | rfl | (first | omega | (simp <;> omega))) | (with_reducible refine heap_drew ?_) | (with_reducible refine heap_drewN ?_) | (with_reducible refine (heap_alloc_old _ _ ?_).trans ?_; (first | omega | (simp <;> omega))) | (with_reducible refine heap_set_far ?_ ?_; rotate_left; (first | omega | (simp <;> omega)))))), (by (repeat (first | with_reducible exact heap_set2 (by with_reducible assumption) | with_reducible exact heap_set2 (heapAt _ _ _ rfl) | with_reducible exact heap_set1 (by with_reducible assumption) | with_reducible exact heap_set1 (heapAt _ _ _ rfl) | with_reducible assumption | (with_reducible refine heapAt _ _ _ ?_; first | rfl | (first | omega | (simp <;> omega))) | (with_reducible refine heap_drew ?_) | (with_reducible refine heap_drewN ?_) | (with_reducible refine (heap_alloc_old _ _ ?_).trans ?_; (first | omega | (simp <;> omega))) | (with_reducible refine heap_set_far ?_ ?_; rotate_left; (first | omega | (simp <;> omega)))))), below_drewN hbr _⟩
              case measure => simp [intOf]; omega
            · obtain rfl : i = tk.length := by omega
              clear hi
              go_wp2_with fail
              go_ret
              exact ⟨ret_bool (by simp), hbr⟩
end Go.Proofs.Ytinlmkhlgclbfaa
