/- SameD -/
import Derived.Test.YtinlmkhlgclbfaaRtA12
import Derived.Test.YtinlmkhlgclbfaaRtA25
import Derived.Test.YtinlmkhlgclbfaaRtA35
import Derived.StillTailTactics
namespace Go.Proofs.Ytinlmkhlgclbfaa
open Go.RowKit
set_option maxRecDepth 100000
set_option maxHeartbeats 8000000

theorem refSameDomain (d : TDom) (S T : TDomS) (B : Nat) (w : World) (hB : B ≤ w.heap.size) (hs : TDom.At (Low B) w d S) (ht : TDom.At (Low B) w d T) :
    Calls Try.prog 61 #[.agg #[.slice S.a0 d.jobs.length S.n0, .slice S.a1 d.released.length S.n1, .int .i64 d.next, .slice S.a2 d.ins.length S.n2, .slice S.a3 d.taken.length S.n3, .slice S.a4 d.outs.length S.n4, .slice S.a5 d.events.length S.n5], .agg #[.slice T.a0 d.jobs.length T.n0, .slice T.a1 d.released.length T.n1, .int .i64 d.next, .slice T.a2 d.ins.length T.n2, .slice T.a3 d.taken.length T.n3, .slice T.a4 d.outs.length T.n4, .slice T.a5 d.events.length T.n5]] w fun e w' => e = .returned (.bool true) ∧ Below w.heap.size w w' := by
  obtain ⟨q0, q1, q2, q3, q4, q5⟩ := dom_len hs
  obtain ⟨e0, k0, e1, k1, e2, k2, e3, k3, e4, k4, e5, k5⟩ := S
  obtain ⟨hs0, hs1, hs2, hs3, hs4, hs5⟩ := hs
  obtain ⟨f0, l0, f1, l1, f2, l2, f3, l3, f4, l4, f5, l5⟩ := T
  obtain ⟨ht0, ht1, ht2, ht3, ht4, ht5⟩ := ht
  dsimp only at hs0 hs1 hs2 hs3 hs4 hs5 ht0 ht1 ht2 ht3 ht4 ht5 ⊢
  have HI1 := fun W (h : Below w.heap.size w W) => (refSameInts d.released d.released e1 f1 k1 l1 B W (Nat.le_trans hB h.size) (hs1.next hB h) (ht1.next hB h))
  have HI3 := fun W (h : Below w.heap.size w W) => (refSameInts d.taken d.taken e3 f3 k3 l3 B W (Nat.le_trans hB h.size) (hs3.next hB h) (ht3.next hB h))
  rw [show decide (d.released = d.released) = true by simp] at HI1
  rw [show decide (d.taken = d.taken) = true by simp] at HI3
  replace HI1 := Lib.hid HI1
  replace HI3 := Lib.hid HI3
  clear hs1 ht1 hs3 ht3
  go_enter Try.func61, Try.ntmps61
  go_wp2_with fail
  (go_at_call 23; refine (HI1.out _ byB).mono ?_; rintro e w1 ⟨rfl, hb_w1⟩; refine have_then (P := w1.heap[w.heap.size]? = some (.cells #[.slice e0 d.jobs.length k0, .slice e1 d.released.length k1, .int .i64 d.next, .slice e2 d.ins.length k2, .slice e3 d.taken.length k3, .slice e4 d.outs.length k4, .slice e5 d.events.length k5] 90)) ((hb_w1.block _ byS).trans byH) (fun p_w1 => ?_); obtain ⟨cp_w1, fp_w1, zp_w1⟩ := blk p_w1; refine have_then (P := w1.heap[w.heap.size + 1]? = some (.cells #[.slice f0 d.jobs.length l0, .slice f1 d.released.length l1, .int .i64 d.next, .slice f2 d.ins.length l2, .slice f3 d.taken.length l3, .slice f4 d.outs.length l4, .slice f5 d.events.length l5] 90)) ((hb_w1.block _ byS).trans byH) (fun r_w1 => ?_); obtain ⟨cr_w1, fr_w1, zr_w1⟩ := blk r_w1; refine have_then (P := Below w.heap.size w w1) byB (fun h_w1 => ?_); have s_w1 := Below.size h_w1; have t_w1 := Below.size hb_w1; (try simp at t_w1); revert hb_w1; intro hb_w1)
  go_wp2_with fail
  (go_at_call 23; refine (HI3.out _ byB).mono ?_; rintro e w2 ⟨rfl, hb_w2⟩; refine have_then (P := w2.heap[w.heap.size]? = some (.cells #[.slice e0 d.jobs.length k0, .slice e1 d.released.length k1, .int .i64 d.next, .slice e2 d.ins.length k2, .slice e3 d.taken.length k3, .slice e4 d.outs.length k4, .slice e5 d.events.length k5] 90)) ((hb_w2.block _ byS).trans byH) (fun p_w2 => ?_); obtain ⟨cp_w2, fp_w2, zp_w2⟩ := blk p_w2; refine have_then (P := w2.heap[w.heap.size + 1]? = some (.cells #[.slice f0 d.jobs.length l0, .slice f1 d.released.length l1, .int .i64 d.next, .slice f2 d.ins.length l2, .slice f3 d.taken.length l3, .slice f4 d.outs.length l4, .slice f5 d.events.length l5] 90)) ((hb_w2.block _ byS).trans byH) (fun r_w2 => ?_); obtain ⟨cr_w2, fr_w2, zr_w2⟩ := blk r_w2; refine have_then (P := Below w.heap.size w w2) byB (fun h_w2 => ?_); have s_w2 := Below.size h_w2; have t_w2 := Below.size hb_w2; (try simp at t_w2); revert hb_w2; intro hb_w2; clear p_w1 cp_w1 fp_w1 r_w1 cr_w1 fr_w1)
  go_wp2_with fail
  go_loopw [5] (fun iv wr => ∃ i : Nat, i ≤ d.jobs.length ∧ iv = .int .i64 i ∧ wr.heap[w.heap.size]? = some (.cells #[.slice e0 d.jobs.length k0, .slice e1 d.released.length k1, .int .i64 d.next, .slice e2 d.ins.length k2, .slice e3 d.taken.length k3, .slice e4 d.outs.length k4, .slice e5 d.events.length k5] 90) ∧ wr.heap[w.heap.size + 1]? = some (.cells #[.slice f0 d.jobs.length l0, .slice f1 d.released.length l1, .int .i64 d.next, .slice f2 d.ins.length l2, .slice f3 d.taken.length l3, .slice f4 d.outs.length l4, .slice f5 d.events.length l5] 90) ∧ Below w.heap.size w wr) (fun iv _ => d.jobs.length - (intOf iv).toNat)
  case atStart => exact ⟨0, Nat.zero_le _, rfl, p_w2, r_w2, h_w2⟩
  case round =>
    clear p_w2 r_w2 h_w2 cp_w2 fp_w2 zp_w2 cr_w2 fr_w2 zr_w2 hb_w2 hb_w1 h_w1
    obtain ⟨i, hi, rfl, hp, hr, hbr⟩ := hrel
    obtain ⟨cp, fp, zp⟩ := blk hp
    obtain ⟨cr, fr, zr⟩ := blk hr
    have so := hbr.size
    obtain ⟨wo, rfl⟩ : ∃ wo : World, wo = wr := ⟨_, rfl⟩
    by_cases hlt : i < d.jobs.length
    · obtain ⟨b, o, rfl, hI, c0, c1, c2, c3, c4, c5⟩ := (hs0.next hB hbr).at_job hlt
      obtain ⟨b', o', rfl, hI', d0, d1, d2, d3, d4, d5⟩ := (ht0.next hB hbr).at_job hlt
      have hi0 : (0 : Int) ≤ i := by omega
      have hi1 : (i : Int) < d.jobs.length := by omega
      have hbl : b < wo.heap.size := Nat.lt_of_lt_of_le hI (Nat.le_trans hB so)
      have hbl' : b' < wo.heap.size := Nat.lt_of_lt_of_le hI' (Nat.le_trans hB so)
      have hneq := fun w => neqJob (nth d.jobs i) (nth d.jobs i) w
      rw [show diffT (nth d.jobs i) (nth d.jobs i) = false by simp [diffT]] at hneq
      have hgd := guardJob
      go_wp2_with fail
      go_quiet (fail)
      go_wp2_with fail
      go_roundw
      case rel => exact ⟨i + 1, by omega, by go_num, byH, byH, below_drewN hbr _⟩
      case measure => simp [intOf]; omega
    · obtain rfl : i = d.jobs.length := by omega
      clear hi
      go_wp2_with fail
      go_loopw [6] (fun iv wr => ∃ i : Nat, i ≤ d.ins.length ∧ iv = .int .i64 i ∧ wr.heap[w.heap.size]? = some (.cells #[.slice e0 d.jobs.length k0, .slice e1 d.released.length k1, .int .i64 d.next, .slice e2 d.ins.length k2, .slice e3 d.taken.length k3, .slice e4 d.outs.length k4, .slice e5 d.events.length k5] 90) ∧ wr.heap[w.heap.size + 1]? = some (.cells #[.slice f0 d.jobs.length l0, .slice f1 d.released.length l1, .int .i64 d.next, .slice f2 d.ins.length l2, .slice f3 d.taken.length l3, .slice f4 d.outs.length l4, .slice f5 d.events.length l5] 90) ∧ Below w.heap.size w wr) (fun iv _ => d.ins.length - (intOf iv).toNat)
      case atStart => exact ⟨0, Nat.zero_le _, rfl, hp, hr, hbr⟩
      case round =>
        clear hp hr hbr cp fp zp cr fr zr so
        obtain ⟨i, hi, rfl, hp, hr, hbr⟩ := hrel
        obtain ⟨cp, fp, zp⟩ := blk hp
        obtain ⟨cr, fr, zr⟩ := blk hr
        have so := hbr.size
        obtain ⟨wo, rfl⟩ : ∃ wo : World, wo = wr := ⟨_, rfl⟩
        by_cases hlt : i < d.ins.length
        · obtain ⟨b, o, A1, m1, rfl, hI, c0, c1, hin⟩ := (hs2.next hB hbr).at_ring hlt
          obtain ⟨b', o', A2, m2, rfl, hI', d0, d1, hin'⟩ := (ht2.next hB hbr).at_ring hlt
          have hi0 : (0 : Int) ≤ i := by omega
          have hi1 : (i : Int) < d.ins.length := by omega
          have hbl : b < wo.heap.size := Nat.lt_of_lt_of_le hI (Nat.le_trans hB so)
          have hbl' : b' < wo.heap.size := Nat.lt_of_lt_of_le hI' (Nat.le_trans hB so)
          have HC := fun W (h : Below wo.heap.size wo W) => refSameRing (nth d.ins i).vals (nth d.ins i).vals (nth d.ins i).lost (nth d.ins i).lost A1 A2 m1 m2 B W (Nat.le_trans (Nat.le_trans hB so) h.size) (hin.next (Nat.le_trans hB so) h) (hin'.next (Nat.le_trans hB so) h)
          rw [show (decide ((nth d.ins i).lost = (nth d.ins i).lost) && decide ((nth d.ins i).vals = (nth d.ins i).vals)) = true by simp] at HC
          replace HC := Lib.hid HC
          clear hin hin'
          go_wp2_with fail
          (refine wp_region_still_tail 10 (by kernel_rfl) (by kernel_rfl) ?_; simp only [List.take_succ_cons, List.take_zero, List.drop_succ_cons, List.drop_zero]; (iterate 10 (with_reducible refine wpStill_step (fun K hK => ?_); replace hK := Lib.hid hK; go_simp; with_reducible refine hK.out _ ?_; clear hK K)); refine wpStill_nil ?_)
          change wpList _ _ _ _ _ wo.drew
          go_wp2_with fail
          (go_at_call 67; refine (HC.out _ byB).mono ?_; rintro e w1 ⟨rfl, hb_w1⟩; refine have_then (P := w1.heap[w.heap.size]? = some (.cells #[.slice e0 d.jobs.length k0, .slice e1 d.released.length k1, .int .i64 d.next, .slice (some ⟨b, o, none⟩) d.ins.length k2, .slice e3 d.taken.length k3, .slice e4 d.outs.length k4, .slice e5 d.events.length k5] 90)) ((hb_w1.block _ byS).trans byH) (fun p_w1 => ?_); obtain ⟨cp_w1, fp_w1, zp_w1⟩ := blk p_w1; refine have_then (P := w1.heap[w.heap.size + 1]? = some (.cells #[.slice f0 d.jobs.length l0, .slice f1 d.released.length l1, .int .i64 d.next, .slice (some ⟨b', o', none⟩) d.ins.length l2, .slice f3 d.taken.length l3, .slice f4 d.outs.length l4, .slice f5 d.events.length l5] 90)) ((hb_w1.block _ byS).trans byH) (fun r_w1 => ?_); obtain ⟨cr_w1, fr_w1, zr_w1⟩ := blk r_w1; refine have_then (P := Below w.heap.size w w1) byB (fun h_w1 => ?_); have s_w1 := Below.size h_w1; have t_w1 := Below.size hb_w1; (try simp at t_w1); revert hb_w1; intro hb_w1)
          go_wp2_with fail
          go_roundw
          case rel => exact ⟨i + 1, by omega, by go_num, byH, byH, byB⟩
          case measure => simp [intOf]; omega
        · obtain rfl : i = d.ins.length := by omega
          clear hi
          go_wp2_with fail
          go_loopw [7] (fun iv wr => ∃ i : Nat, i ≤ d.outs.length ∧ iv = .int .i64 i ∧ wr.heap[w.heap.size]? = some (.cells #[.slice e0 d.jobs.length k0, .slice e1 d.released.length k1, .int .i64 d.next, .slice e2 d.ins.length k2, .slice e3 d.taken.length k3, .slice e4 d.outs.length k4, .slice e5 d.events.length k5] 90) ∧ wr.heap[w.heap.size + 1]? = some (.cells #[.slice f0 d.jobs.length l0, .slice f1 d.released.length l1, .int .i64 d.next, .slice f2 d.ins.length l2, .slice f3 d.taken.length l3, .slice f4 d.outs.length l4, .slice f5 d.events.length l5] 90) ∧ Below w.heap.size w wr) (fun iv _ => d.outs.length - (intOf iv).toNat)
          case atStart => exact ⟨0, Nat.zero_le _, rfl, hp, hr, hbr⟩
          case round =>
            clear hp hr hbr cp fp zp cr fr zr so
            obtain ⟨i, hi, rfl, hp, hr, hbr⟩ := hrel
            obtain ⟨cp, fp, zp⟩ := blk hp
            obtain ⟨cr, fr, zr⟩ := blk hr
            have so := hbr.size
            obtain ⟨wo, rfl⟩ : ∃ wo : World, wo = wr := ⟨_, rfl⟩
            by_cases hlt : i < d.outs.length
            · obtain ⟨b, o, A1, m1, rfl, hI, c0, hin⟩ := (hs4.next hB hbr).at_slice hlt
              obtain ⟨b', o', A2, m2, rfl, hI', d0, hin'⟩ := (ht4.next hB hbr).at_slice hlt
              have hi0 : (0 : Int) ≤ i := by omega
              have hi1 : (i : Int) < d.outs.length := by omega
              have hbl : b < wo.heap.size := Nat.lt_of_lt_of_le hI (Nat.le_trans hB so)
              have hbl' : b' < wo.heap.size := Nat.lt_of_lt_of_le hI' (Nat.le_trans hB so)
              have HC := fun W (h : Below wo.heap.size wo W) => refSameInts (nth d.outs i) (nth d.outs i) A1 A2 m1 m2 B W (Nat.le_trans (Nat.le_trans hB so) h.size) (hin.next (Nat.le_trans hB so) h) (hin'.next (Nat.le_trans hB so) h)
              rw [show decide (nth d.outs i = nth d.outs i) = true by simp] at HC
              replace HC := Lib.hid HC
              clear hin hin'
              go_wp2_with fail
              (refine wp_region_still_tail 10 (by kernel_rfl) (by kernel_rfl) ?_; simp only [List.take_succ_cons, List.take_zero, List.drop_succ_cons, List.drop_zero]; (iterate 10 (with_reducible refine wpStill_step (fun K hK => ?_); replace hK := Lib.hid hK; go_simp; with_reducible refine hK.out _ ?_; clear hK K)); refine wpStill_nil ?_)
              change wpList _ _ _ _ _ wo.drew
              go_wp2_with fail
              (go_at_call 23; refine (HC.out _ byB).mono ?_; rintro e w1 ⟨rfl, hb_w1⟩; refine have_then (P := w1.heap[w.heap.size]? = some (.cells #[.slice e0 d.jobs.length k0, .slice e1 d.released.length k1, .int .i64 d.next, .slice e2 d.ins.length k2, .slice e3 d.taken.length k3, .slice (some ⟨b, o, none⟩) d.outs.length k4, .slice e5 d.events.length k5] 90)) ((hb_w1.block _ byS).trans byH) (fun p_w1 => ?_); obtain ⟨cp_w1, fp_w1, zp_w1⟩ := blk p_w1; refine have_then (P := w1.heap[w.heap.size + 1]? = some (.cells #[.slice f0 d.jobs.length l0, .slice f1 d.released.length l1, .int .i64 d.next, .slice f2 d.ins.length l2, .slice f3 d.taken.length l3, .slice (some ⟨b', o', none⟩) d.outs.length l4, .slice f5 d.events.length l5] 90)) ((hb_w1.block _ byS).trans byH) (fun r_w1 => ?_); obtain ⟨cr_w1, fr_w1, zr_w1⟩ := blk r_w1; refine have_then (P := Below w.heap.size w w1) byB (fun h_w1 => ?_); have s_w1 := Below.size h_w1; have t_w1 := Below.size hb_w1; (try simp at t_w1); revert hb_w1; intro hb_w1)
              go_wp2_with fail
              go_roundw
              case rel => exact ⟨i + 1, by omega, by go_num, byH, byH, byB⟩
              case measure => simp [intOf]; omega
            · obtain rfl : i = d.outs.length := by omega
              clear hi
              go_wp2_with fail
              go_loopw [8] (fun iv wr => ∃ i : Nat, i ≤ d.events.length ∧ iv = .int .i64 i ∧ wr.heap[w.heap.size]? = some (.cells #[.slice e0 d.jobs.length k0, .slice e1 d.released.length k1, .int .i64 d.next, .slice e2 d.ins.length k2, .slice e3 d.taken.length k3, .slice e4 d.outs.length k4, .slice e5 d.events.length k5] 90) ∧ wr.heap[w.heap.size + 1]? = some (.cells #[.slice f0 d.jobs.length l0, .slice f1 d.released.length l1, .int .i64 d.next, .slice f2 d.ins.length l2, .slice f3 d.taken.length l3, .slice f4 d.outs.length l4, .slice f5 d.events.length l5] 90) ∧ Below w.heap.size w wr) (fun iv _ => d.events.length - (intOf iv).toNat)
              case atStart => exact ⟨0, Nat.zero_le _, rfl, hp, hr, hbr⟩
              case round =>
                clear hp hr hbr cp fp zp cr fr zr so
                obtain ⟨i, hi, rfl, hp, hr, hbr⟩ := hrel
                obtain ⟨cp, fp, zp⟩ := blk hp
                obtain ⟨cr, fr, zr⟩ := blk hr
                have so := hbr.size
                obtain ⟨wo, rfl⟩ : ∃ wo : World, wo = wr := ⟨_, rfl⟩
                by_cases hlt : i < d.events.length
                · obtain ⟨b, o, rfl, hI, c0, c1, c2, c3⟩ := (hs5.next hB hbr).at_ev hlt
                  obtain ⟨b', o', rfl, hI', d0, d1, d2, d3⟩ := (ht5.next hB hbr).at_ev hlt
                  have hi0 : (0 : Int) ≤ i := by omega
                  have hi1 : (i : Int) < d.events.length := by omega
                  have hbl : b < wo.heap.size := Nat.lt_of_lt_of_le hI (Nat.le_trans hB so)
                  have hbl' : b' < wo.heap.size := Nat.lt_of_lt_of_le hI' (Nat.le_trans hB so)
                  have hneq := fun w => neqEv (nth d.events i) (nth d.events i) w
                  rw [show diffT (nth d.events i) (nth d.events i) = false by simp [diffT]] at hneq
                  have hgd := guardEv
                  go_wp2_with fail
                  go_quiet (fail)
                  go_wp2_with fail
                  go_roundw
                  case rel => exact ⟨i + 1, by omega, by go_num, byH, byH, below_drewN hbr _⟩
                  case measure => simp [intOf]; omega
                · obtain rfl : i = d.events.length := by omega
                  clear hi
                  go_wp2_with fail
                  go_ret
                  exact ⟨ret_bool (by simp), hbr⟩
end Go.Proofs.Ytinlmkhlgclbfaa
