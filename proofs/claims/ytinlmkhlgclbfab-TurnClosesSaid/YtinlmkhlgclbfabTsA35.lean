/- NeqJob NeqEv SameD TurnI MemT ConfO -/
import Derived.Test.YtinlmkhlgclbfabTsA03
import Derived.Test.YtinlmkhlgclbfabTsA04
import Derived.Test.YtinlmkhlgclbfabTsA05
import Derived.Test.YtinlmkhlgclbfabTsA10
import Derived.Test.YtinlmkhlgclbfabTsA11
import Derived.Test.YtinlmkhlgclbfabTsA27
import Derived.Test.YtinlmkhlgclbfabTsA34
import Derived.Test.YtinlmkhlgclbfabProg
import Derived.Laws.StructEq
import Derived.StillTailTactics
section
namespace Go.Proofs.Ytinlmkhlgclbfab
open Go.RowKit
set_option maxRecDepth 100000
set_option maxHeartbeats 400000

theorem neqJob (x y : TJob) (w : World) : (binOp .neq 110 (.agg #[.int .i64 x.task, .int .i64 x.number, .int .i64 x.released, .int .i64 x.used, .bool x.ran, .bool x.missed]) (.agg #[.int .i64 y.task, .int .i64 y.number, .int .i64 y.released, .int .i64 y.used, .bool y.ran, .bool y.missed])).run Try.prog w = .ok (.bool (diffT x y)) w := by
  have hf := congrArg (fun u : Option TypeDesc => match u with | some (.struct fs) => fs | _ => #[]) Try.underlying110
  change Try.prog.fieldsOf 110 = _ at hf
  simp only at hf
  rw [run_neq_struct, run_equalIn_agg _ _ _ _ _ (by rw [hf]; exact Try.underlying110) (by kernel_rfl), hf]
  have u1 := Try.underlying3
  have u2 := Try.underlying4
  have hd : diffT x y = !(x.task == y.task && x.number == y.number && x.released == y.released && x.used == y.used && x.ran == y.ran && x.missed == y.missed) := by
    unfold diffT
    congr 1
    rw [Bool.eq_iff_iff]
    cases x; cases y; simp [and_assoc]
  rw [hd]
  clear hd
  simp [Op.eqFields, go_sem, *]
  (repeat' split) <;> simp_all
theorem guardJob : Try.prog.eqGuardType Try.prog.depth 110 = false := by kernel_rfl
end Go.Proofs.Ytinlmkhlgclbfab
end

section
namespace Go.Proofs.Ytinlmkhlgclbfab
open Go.RowKit
set_option maxRecDepth 100000
set_option maxHeartbeats 400000

theorem neqEv (x y : TEv) (w : World) : (binOp .neq 84 (.agg #[.int .i64 x.t, .int .i64 x.kind, .int .i64 x.a, .int .i64 x.b]) (.agg #[.int .i64 y.t, .int .i64 y.kind, .int .i64 y.a, .int .i64 y.b])).run Try.prog w = .ok (.bool (diffT x y)) w := by
  have hf := congrArg (fun u : Option TypeDesc => match u with | some (.struct fs) => fs | _ => #[]) Try.underlying84
  change Try.prog.fieldsOf 84 = _ at hf
  simp only at hf
  rw [run_neq_struct, run_equalIn_agg _ _ _ _ _ (by rw [hf]; exact Try.underlying84) (by kernel_rfl), hf]
  have u1 := Try.underlying3
  have u2 := Try.underlying4
  have hd : diffT x y = !(x.t == y.t && x.kind == y.kind && x.a == y.a && x.b == y.b) := by
    unfold diffT
    congr 1
    rw [Bool.eq_iff_iff]
    cases x; cases y; simp [and_assoc]
  rw [hd]
  clear hd
  simp [Op.eqFields, go_sem, *]
  (repeat' split) <;> simp_all
theorem guardEv : Try.prog.eqGuardType Try.prog.depth 84 = false := by kernel_rfl
end Go.Proofs.Ytinlmkhlgclbfab
end

section
namespace Go.Proofs.Ytinlmkhlgclbfab
open Go.RowKit
set_option maxRecDepth 100000
set_option maxHeartbeats 8000000

theorem refSameDomain (d : TDom) (S T : TDomS) (B : Nat) (w : World) (hB : B ≤ w.heap.size) (hs : TDom.At (Low B) w d S) (ht : TDom.At (Low B) w d T) :
    Calls Try.prog 60 #[.agg #[.slice S.a0 d.jobs.length S.n0, .slice S.a1 d.released.length S.n1, .int .i64 d.next, .slice S.a2 d.ins.length S.n2, .slice S.a3 d.taken.length S.n3, .slice S.a4 d.outs.length S.n4, .slice S.a5 d.events.length S.n5], .agg #[.slice T.a0 d.jobs.length T.n0, .slice T.a1 d.released.length T.n1, .int .i64 d.next, .slice T.a2 d.ins.length T.n2, .slice T.a3 d.taken.length T.n3, .slice T.a4 d.outs.length T.n4, .slice T.a5 d.events.length T.n5]] w fun e w' => e = .returned (.bool true) ∧ Below w.heap.size w w' := by
  obtain ⟨q0, q1, q2, q3, q4, q5⟩ := dom_len hs
  obtain ⟨e0, k0, e1, k1, e2, k2, e3, k3, e4, k4, e5, k5⟩ := S
  obtain ⟨hs0, hs1, hs2, hs3, hs4, hs5⟩ := hs
  obtain ⟨f0, l0, f1, l1, f2, l2, f3, l3, f4, l4, f5, l5⟩ := T
  obtain ⟨ht0, ht1, ht2, ht3, ht4, ht5⟩ := ht
  dsimp only at hs0 hs1 hs2 hs3 hs4 hs5 ht0 ht1 ht2 ht3 ht4 ht5 ⊢
  have HI1 := fun W (h : Below w.heap.size w W) => (refSameInts d.released d.released e1 f1 k1 l1 B W (Nat.le_trans hB h.size) (hs1.next hB h) (ht1.next hB h))
  have HI3 := fun W (h : Below w.heap.size w W) => (refSameInts d.taken d.taken e3 f3 k3 l3 B W (Nat.le_trans hB h.size) (hs3.next hB h) (ht3.next hB h))
  rw [show decide (d.released = d.released) = true by simp] at HI1
  rw [show decide (d.taken = d.taken) = true by simp] at HI3
  replace HI1 := Lib.hid HI1
  replace HI3 := Lib.hid HI3
  clear hs1 ht1 hs3 ht3
  go_enter Try.func60, Try.ntmps60
  go_wp2_with fail
  (go_at_call 103; refine (HI1.out _ byB).mono ?_; rintro e w1 ⟨rfl, hb_w1⟩; refine have_then (P := w1.heap[w.heap.size]? = some (.cells #[.slice e0 d.jobs.length k0, .slice e1 d.released.length k1, .int .i64 d.next, .slice e2 d.ins.length k2, .slice e3 d.taken.length k3, .slice e4 d.outs.length k4, .slice e5 d.events.length k5] 45)) ((hb_w1.block _ byS).trans byH) (fun p_w1 => ?_); obtain ⟨cp_w1, fp_w1, zp_w1⟩ := blk p_w1; refine have_then (P := w1.heap[w.heap.size + 1]? = some (.cells #[.slice f0 d.jobs.length l0, .slice f1 d.released.length l1, .int .i64 d.next, .slice f2 d.ins.length l2, .slice f3 d.taken.length l3, .slice f4 d.outs.length l4, .slice f5 d.events.length l5] 45)) ((hb_w1.block _ byS).trans byH) (fun r_w1 => ?_); obtain ⟨cr_w1, fr_w1, zr_w1⟩ := blk r_w1; refine have_then (P := Below w.heap.size w w1) byB (fun h_w1 => ?_); have s_w1 := Below.size h_w1; have t_w1 := Below.size hb_w1; (try simp at t_w1); revert hb_w1; intro hb_w1)
  go_wp2_with fail
  (go_at_call 103; refine (HI3.out _ byB).mono ?_; rintro e w2 ⟨rfl, hb_w2⟩; refine have_then (P := w2.heap[w.heap.size]? = some (.cells #[.slice e0 d.jobs.length k0, .slice e1 d.released.length k1, .int .i64 d.next, .slice e2 d.ins.length k2, .slice e3 d.taken.length k3, .slice e4 d.outs.length k4, .slice e5 d.events.length k5] 45)) ((hb_w2.block _ byS).trans byH) (fun p_w2 => ?_); obtain ⟨cp_w2, fp_w2, zp_w2⟩ := blk p_w2; refine have_then (P := w2.heap[w.heap.size + 1]? = some (.cells #[.slice f0 d.jobs.length l0, .slice f1 d.released.length l1, .int .i64 d.next, .slice f2 d.ins.length l2, .slice f3 d.taken.length l3, .slice f4 d.outs.length l4, .slice f5 d.events.length l5] 45)) ((hb_w2.block _ byS).trans byH) (fun r_w2 => ?_); obtain ⟨cr_w2, fr_w2, zr_w2⟩ := blk r_w2; refine have_then (P := Below w.heap.size w w2) byB (fun h_w2 => ?_); have s_w2 := Below.size h_w2; have t_w2 := Below.size hb_w2; (try simp at t_w2); revert hb_w2; intro hb_w2; clear p_w1 cp_w1 fp_w1 r_w1 cr_w1 fr_w1)
  go_wp2_with fail
  go_loopw [5] (fun iv wr => ∃ i : Nat, i ≤ d.jobs.length ∧ iv = .int .i64 i ∧ wr.heap[w.heap.size]? = some (.cells #[.slice e0 d.jobs.length k0, .slice e1 d.released.length k1, .int .i64 d.next, .slice e2 d.ins.length k2, .slice e3 d.taken.length k3, .slice e4 d.outs.length k4, .slice e5 d.events.length k5] 45) ∧ wr.heap[w.heap.size + 1]? = some (.cells #[.slice f0 d.jobs.length l0, .slice f1 d.released.length l1, .int .i64 d.next, .slice f2 d.ins.length l2, .slice f3 d.taken.length l3, .slice f4 d.outs.length l4, .slice f5 d.events.length l5] 45) ∧ Below w.heap.size w wr) (fun iv _ => d.jobs.length - (intOf iv).toNat)
  case atStart => exact ⟨0, Nat.zero_le _, rfl, p_w2, r_w2, h_w2⟩
  case round =>
    clear p_w2 r_w2 h_w2 cp_w2 fp_w2 zp_w2 cr_w2 fr_w2 zr_w2 hb_w2 hb_w1 h_w1
    obtain ⟨i, hi, rfl, hp, hr, hbr⟩ := hrel
    obtain ⟨cp, fp, zp⟩ := blk hp
    obtain ⟨cr, fr, zr⟩ := blk hr
    have so := hbr.size
    obtain ⟨wo, rfl⟩ : ∃ wo : World, wo = wr := ⟨_, rfl⟩
    by_cases hlt : i < d.jobs.length
    · obtain ⟨b, o, rfl, hI, c0, c1, c2, c3, c4, c5⟩ := (hs0.next hB hbr).at_job hlt
      obtain ⟨b', o', rfl, hI', d0, d1, d2, d3, d4, d5⟩ := (ht0.next hB hbr).at_job hlt
      have hi0 : (0 : Int) ≤ i := by omega
      have hi1 : (i : Int) < d.jobs.length := by omega
      have hbl : b < wo.heap.size := Nat.lt_of_lt_of_le hI (Nat.le_trans hB so)
      have hbl' : b' < wo.heap.size := Nat.lt_of_lt_of_le hI' (Nat.le_trans hB so)
      have hneq := fun w => neqJob (nth d.jobs i) (nth d.jobs i) w
      rw [show diffT (nth d.jobs i) (nth d.jobs i) = false by simp [diffT]] at hneq
      have hgd := guardJob
      go_wp2_with fail
      go_quiet (fail)
      go_wp2_with fail
      go_roundw
      case rel => exact ⟨i + 1, by omega, by go_num, byH, byH, below_drewN hbr _⟩
      case measure => simp [intOf]; omega
    · obtain rfl : i = d.jobs.length := by omega
      clear hi
      go_wp2_with fail
      go_loopw [6] (fun iv wr => ∃ i : Nat, i ≤ d.ins.length ∧ iv = .int .i64 i ∧ wr.heap[w.heap.size]? = some (.cells #[.slice e0 d.jobs.length k0, .slice e1 d.released.length k1, .int .i64 d.next, .slice e2 d.ins.length k2, .slice e3 d.taken.length k3, .slice e4 d.outs.length k4, .slice e5 d.events.length k5] 45) ∧ wr.heap[w.heap.size + 1]? = some (.cells #[.slice f0 d.jobs.length l0, .slice f1 d.released.length l1, .int .i64 d.next, .slice f2 d.ins.length l2, .slice f3 d.taken.length l3, .slice f4 d.outs.length l4, .slice f5 d.events.length l5] 45) ∧ Below w.heap.size w wr) (fun iv _ => d.ins.length - (intOf iv).toNat)
      case atStart => exact ⟨0, Nat.zero_le _, rfl, hp, hr, hbr⟩
      case round =>
        clear hp hr hbr cp fp zp cr fr zr so
        obtain ⟨i, hi, rfl, hp, hr, hbr⟩ := hrel
        obtain ⟨cp, fp, zp⟩ := blk hp
        obtain ⟨cr, fr, zr⟩ := blk hr
        have so := hbr.size
        obtain ⟨wo, rfl⟩ : ∃ wo : World, wo = wr := ⟨_, rfl⟩
        by_cases hlt : i < d.ins.length
        · obtain ⟨b, o, A1, m1, rfl, hI, c0, c1, hin⟩ := (hs2.next hB hbr).at_ring hlt
          obtain ⟨b', o', A2, m2, rfl, hI', d0, d1, hin'⟩ := (ht2.next hB hbr).at_ring hlt
          have hi0 : (0 : Int) ≤ i := by omega
          have hi1 : (i : Int) < d.ins.length := by omega
          have hbl : b < wo.heap.size := Nat.lt_of_lt_of_le hI (Nat.le_trans hB so)
          have hbl' : b' < wo.heap.size := Nat.lt_of_lt_of_le hI' (Nat.le_trans hB so)
          have HC := fun W (h : Below wo.heap.size wo W) => refSameRing (nth d.ins i).vals (nth d.ins i).vals (nth d.ins i).lost (nth d.ins i).lost A1 A2 m1 m2 B W (Nat.le_trans (Nat.le_trans hB so) h.size) (hin.next (Nat.le_trans hB so) h) (hin'.next (Nat.le_trans hB so) h)
          rw [show (decide ((nth d.ins i).lost = (nth d.ins i).lost) && decide ((nth d.ins i).vals = (nth d.ins i).vals)) = true by simp] at HC
          replace HC := Lib.hid HC
          clear hin hin'
          go_wp2_with fail
          (refine wp_region_still_tail 10 (by kernel_rfl) (by kernel_rfl) ?_; simp only [List.take_succ_cons, List.take_zero, List.drop_succ_cons, List.drop_zero]; (iterate 10 (with_reducible refine wpStill_step (fun K hK => ?_); replace hK := Lib.hid hK; go_simp; with_reducible refine hK.out _ ?_; clear hK K)); refine wpStill_nil ?_)
          change wpList _ _ _ _ _ wo.drew
          go_wp2_with fail
          (go_at_call 104; refine (HC.out _ byB).mono ?_; rintro e w1 ⟨rfl, hb_w1⟩; refine have_then (P := w1.heap[w.heap.size]? = some (.cells #[.slice e0 d.jobs.length k0, .slice e1 d.released.length k1, .int .i64 d.next, .slice (some ⟨b, o, none⟩) d.ins.length k2, .slice e3 d.taken.length k3, .slice e4 d.outs.length k4, .slice e5 d.events.length k5] 45)) ((hb_w1.block _ byS).trans byH) (fun p_w1 => ?_); obtain ⟨cp_w1, fp_w1, zp_w1⟩ := blk p_w1; refine have_then (P := w1.heap[w.heap.size + 1]? = some (.cells #[.slice f0 d.jobs.length l0, .slice f1 d.released.length l1, .int .i64 d.next, .slice (some ⟨b', o', none⟩) d.ins.length l2, .slice f3 d.taken.length l3, .slice f4 d.outs.length l4, .slice f5 d.events.length l5] 45)) ((hb_w1.block _ byS).trans byH) (fun r_w1 => ?_); obtain ⟨cr_w1, fr_w1, zr_w1⟩ := blk r_w1; refine have_then (P := Below w.heap.size w w1) byB (fun h_w1 => ?_); have s_w1 := Below.size h_w1; have t_w1 := Below.size hb_w1; (try simp at t_w1); revert hb_w1; intro hb_w1)
          go_wp2_with fail
          go_roundw
          case rel => exact ⟨i + 1, by omega, by go_num, byH, byH, byB⟩
          case measure => simp [intOf]; omega
        · obtain rfl : i = d.ins.length := by omega
          clear hi
          go_wp2_with fail
          go_loopw [7] (fun iv wr => ∃ i : Nat, i ≤ d.outs.length ∧ iv = .int .i64 i ∧ wr.heap[w.heap.size]? = some (.cells #[.slice e0 d.jobs.length k0, .slice e1 d.released.length k1, .int .i64 d.next, .slice e2 d.ins.length k2, .slice e3 d.taken.length k3, .slice e4 d.outs.length k4, .slice e5 d.events.length k5] 45) ∧ wr.heap[w.heap.size + 1]? = some (.cells #[.slice f0 d.jobs.length l0, .slice f1 d.released.length l1, .int .i64 d.next, .slice f2 d.ins.length l2, .slice f3 d.taken.length l3, .slice f4 d.outs.length l4, .slice f5 d.events.length l5] 45) ∧ Below w.heap.size w wr) (fun iv _ => d.outs.length - (intOf iv).toNat)
          case atStart => exact ⟨0, Nat.zero_le _, rfl, hp, hr, hbr⟩
          case round =>
            clear hp hr hbr cp fp zp cr fr zr so
            obtain ⟨i, hi, rfl, hp, hr, hbr⟩ := hrel
            obtain ⟨cp, fp, zp⟩ := blk hp
            obtain ⟨cr, fr, zr⟩ := blk hr
            have so := hbr.size
            obtain ⟨wo, rfl⟩ : ∃ wo : World, wo = wr := ⟨_, rfl⟩
            by_cases hlt : i < d.outs.length
            · obtain ⟨b, o, A1, m1, rfl, hI, c0, hin⟩ := (hs4.next hB hbr).at_slice hlt
              obtain ⟨b', o', A2, m2, rfl, hI', d0, hin'⟩ := (ht4.next hB hbr).at_slice hlt
              have hi0 : (0 : Int) ≤ i := by omega
              have hi1 : (i : Int) < d.outs.length := by omega
              have hbl : b < wo.heap.size := Nat.lt_of_lt_of_le hI (Nat.le_trans hB so)
              have hbl' : b' < wo.heap.size := Nat.lt_of_lt_of_le hI' (Nat.le_trans hB so)
              have HC := fun W (h : Below wo.heap.size wo W) => refSameInts (nth d.outs i) (nth d.outs i) A1 A2 m1 m2 B W (Nat.le_trans (Nat.le_trans hB so) h.size) (hin.next (Nat.le_trans hB so) h) (hin'.next (Nat.le_trans hB so) h)
              rw [show decide (nth d.outs i = nth d.outs i) = true by simp] at HC
              replace HC := Lib.hid HC
              clear hin hin'
              go_wp2_with fail
              (refine wp_region_still_tail 10 (by kernel_rfl) (by kernel_rfl) ?_; simp only [List.take_succ_cons, List.take_zero, List.drop_succ_cons, List.drop_zero]; (iterate 10 (with_reducible refine wpStill_step (fun K hK => ?_); replace hK := Lib.hid hK; go_simp; with_reducible refine hK.out _ ?_; clear hK K)); refine wpStill_nil ?_)
              change wpList _ _ _ _ _ wo.drew
              go_wp2_with fail
              (go_at_call 103; refine (HC.out _ byB).mono ?_; rintro e w1 ⟨rfl, hb_w1⟩; refine have_then (P := w1.heap[w.heap.size]? = some (.cells #[.slice e0 d.jobs.length k0, .slice e1 d.released.length k1, .int .i64 d.next, .slice e2 d.ins.length k2, .slice e3 d.taken.length k3, .slice (some ⟨b, o, none⟩) d.outs.length k4, .slice e5 d.events.length k5] 45)) ((hb_w1.block _ byS).trans byH) (fun p_w1 => ?_); obtain ⟨cp_w1, fp_w1, zp_w1⟩ := blk p_w1; refine have_then (P := w1.heap[w.heap.size + 1]? = some (.cells #[.slice f0 d.jobs.length l0, .slice f1 d.released.length l1, .int .i64 d.next, .slice f2 d.ins.length l2, .slice f3 d.taken.length l3, .slice (some ⟨b', o', none⟩) d.outs.length l4, .slice f5 d.events.length l5] 45)) ((hb_w1.block _ byS).trans byH) (fun r_w1 => ?_); obtain ⟨cr_w1, fr_w1, zr_w1⟩ := blk r_w1; refine have_then (P := Below w.heap.size w w1) byB (fun h_w1 => ?_); have s_w1 := Below.size h_w1; have t_w1 := Below.size hb_w1; (try simp at t_w1); revert hb_w1; intro hb_w1)
              go_wp2_with fail
              go_roundw
              case rel => exact ⟨i + 1, by omega, by go_num, byH, byH, byB⟩
              case measure => simp [intOf]; omega
            · obtain rfl : i = d.outs.length := by omega
              clear hi
              go_wp2_with fail
              go_loopw [8] (fun iv wr => ∃ i : Nat, i ≤ d.events.length ∧ iv = .int .i64 i ∧ wr.heap[w.heap.size]? = some (.cells #[.slice e0 d.jobs.length k0, .slice e1 d.released.length k1, .int .i64 d.next, .slice e2 d.ins.length k2, .slice e3 d.taken.length k3, .slice e4 d.outs.length k4, .slice e5 d.events.length k5] 45) ∧ wr.heap[w.heap.size + 1]? = some (.cells #[.slice f0 d.jobs.length l0, .slice f1 d.released.length l1, .int .i64 d.next, .slice f2 d.ins.length l2, .slice f3 d.taken.length l3, .slice f4 d.outs.length l4, .slice f5 d.events.length l5] 45) ∧ Below w.heap.size w wr) (fun iv _ => d.events.length - (intOf iv).toNat)
              case atStart => exact ⟨0, Nat.zero_le _, rfl, hp, hr, hbr⟩
              case round =>
                clear hp hr hbr cp fp zp cr fr zr so
                obtain ⟨i, hi, rfl, hp, hr, hbr⟩ := hrel
                obtain ⟨cp, fp, zp⟩ := blk hp
                obtain ⟨cr, fr, zr⟩ := blk hr
                have so := hbr.size
                obtain ⟨wo, rfl⟩ : ∃ wo : World, wo = wr := ⟨_, rfl⟩
                by_cases hlt : i < d.events.length
                · obtain ⟨b, o, rfl, hI, c0, c1, c2, c3⟩ := (hs5.next hB hbr).at_ev hlt
                  obtain ⟨b', o', rfl, hI', d0, d1, d2, d3⟩ := (ht5.next hB hbr).at_ev hlt
                  have hi0 : (0 : Int) ≤ i := by omega
                  have hi1 : (i : Int) < d.events.length := by omega
                  have hbl : b < wo.heap.size := Nat.lt_of_lt_of_le hI (Nat.le_trans hB so)
                  have hbl' : b' < wo.heap.size := Nat.lt_of_lt_of_le hI' (Nat.le_trans hB so)
                  have hneq := fun w => neqEv (nth d.events i) (nth d.events i) w
                  rw [show diffT (nth d.events i) (nth d.events i) = false by simp [diffT]] at hneq
                  have hgd := guardEv
                  go_wp2_with fail
                  go_quiet (fail)
                  go_wp2_with fail
                  go_roundw
                  case rel => exact ⟨i + 1, by omega, by go_num, byH, byH, below_drewN hbr _⟩
                  case measure => simp [intOf]; omega
                · obtain rfl : i = d.events.length := by omega
                  clear hi
                  go_wp2_with fail
                  go_ret
                  exact ⟨ret_bool (by simp), hbr⟩
end Go.Proofs.Ytinlmkhlgclbfab
end

section
namespace Go.Proofs.Ytinlmkhlgclbfab
open Go.RowKit
set_option maxRecDepth 100000
set_option maxHeartbeats 8000000

theorem sl_dom1 {w : World} {g N : Nat} {d : TDom} {T : TDomS} {t : TypeId} (h : w.heap[g]? = some (.cells #[.slice T.a0 d.jobs.length T.n0, .slice T.a1 d.released.length T.n1, .int .i64 d.next, .slice T.a2 d.ins.length T.n2, .slice T.a3 d.taken.length T.n3, .slice T.a4 d.outs.length T.n4, .slice T.a5 d.events.length T.n5] t)) (ht : TDom.At (Low N) w d T) (hg : g < N) : Sl cDom (Low N) w (some ⟨g, 0, none⟩) 1 [d] := by
  refine ⟨by simp, by unfold maxLen; omega, fun h => (by cases h), fun i hi => ?_⟩
  obtain rfl : i = 0 := by simp at hi; exact hi
  refine ⟨g, 0, d.cells T, rfl, hg, ⟨T, rfl, ht⟩, fun j u hu => ?_⟩
  simp only [Nat.zero_mul, Nat.zero_add]
  rw [(blk h).1]
  rw [← Array.getElem?_toList]
  exact hu
theorem refSameDomains (ds : List TDom) (A A' : Option Addr) (n n' : Nat) (B : Nat) (w : World) (hB : B ≤ w.heap.size) (hs : Sl cDom (Low B) w A n ds) (ht : Sl cDom (Low B) w A' n' ds) :
    Calls Try.prog 23 #[.slice A ds.length n, .slice A' ds.length n'] w fun e w' => e = .returned (.bool true) ∧ Below w.heap.size w w' := by
  have m0 := Nat.le_trans hs.cap hs.max
  unfold maxLen at m0
  have HS := Lib.hid hs
  have HT := Lib.hid ht
  clear hs ht
  go_enter Try.func23, Try.ntmps23
  go_wp2_with fail
  go_loopw [5] (fun iv wr => ∃ i : Nat, i ≤ ds.length ∧ iv = .int .i64 i ∧ Below w.heap.size w wr) (fun iv _ => ds.length - (intOf iv).toNat)
  case atStart => exact ⟨0, Nat.zero_le _, rfl, byB⟩
  case round =>
    obtain ⟨i, hi, rfl, hbr⟩ := hrel
    have so := hbr.size
    by_cases hlt : i < ds.length
    · have hi0 : (0 : Int) ≤ i := by omega
      have hi1 : (i : Int) < ds.length := by omega
      obtain ⟨b, o, T, rfl, hI, d0, d1, d2, d3, d4, d5, d6, hT⟩ := (HS.out.next hB hbr).at_dom hlt
      obtain ⟨b', o', T', rfl, hI', d0', d1', d2', d3', d4', d5', d6', hT'⟩ := (HT.out.next hB hbr).at_dom hlt
      have hI := Nat.lt_of_lt_of_le hI hB
      have hI' := Nat.lt_of_lt_of_le hI' hB
      have hbl : b < wr.heap.size := by omega
      have hbl' : b' < wr.heap.size := by omega
      have HD := Lib.hid (fun W (h : Below wr.heap.size wr W) => refSameDomain (nth ds i) T T' B W (Nat.le_trans (Nat.le_trans hB so) h.size) (hT.next (Nat.le_trans hB so) h) (hT'.next (Nat.le_trans hB so) h))
      clear hT hT'
      go_wp2_with fail
      go_region_held3 (fun w' => w'.cell? ⟨b, o + i * 7, none⟩ = some (.slice T.a0 (nth ds i).jobs.length T.n0) ∧ w'.cell? ⟨b, o + i * 7 + 1, none⟩ = some (.slice T.a1 (nth ds i).released.length T.n1) ∧ w'.cell? ⟨b, o + i * 7 + 2, none⟩ = some (.int .i64 (nth ds i).next) ∧
          w'.cell? ⟨b, o + i * 7 + 3, none⟩ = some (.slice T.a2 (nth ds i).ins.length T.n2) ∧ w'.cell? ⟨b, o + i * 7 + 4, none⟩ = some (.slice T.a3 (nth ds i).taken.length T.n3) ∧ w'.cell? ⟨b, o + i * 7 + 5, none⟩ = some (.slice T.a4 (nth ds i).outs.length T.n4) ∧ w'.cell? ⟨b, o + i * 7 + 6, none⟩ = some (.slice T.a5 (nth ds i).events.length T.n5) ∧
          w'.cell? ⟨b', o' + i * 7, none⟩ = some (.slice T'.a0 (nth ds i).jobs.length T'.n0) ∧ w'.cell? ⟨b', o' + i * 7 + 1, none⟩ = some (.slice T'.a1 (nth ds i).released.length T'.n1) ∧ w'.cell? ⟨b', o' + i * 7 + 2, none⟩ = some (.int .i64 (nth ds i).next) ∧
          w'.cell? ⟨b', o' + i * 7 + 3, none⟩ = some (.slice T'.a2 (nth ds i).ins.length T'.n2) ∧ w'.cell? ⟨b', o' + i * 7 + 4, none⟩ = some (.slice T'.a3 (nth ds i).taken.length T'.n3) ∧ w'.cell? ⟨b', o' + i * 7 + 5, none⟩ = some (.slice T'.a4 (nth ds i).outs.length T'.n4) ∧ w'.cell? ⟨b', o' + i * 7 + 6, none⟩ = some (.slice T'.a5 (nth ds i).events.length T'.n5))
        (((try dsimp only); (repeat' apply And.intro) <;> (first | exact (Below.cell (B := wr.heap.size) (w := wr) byB (by first | assumption | omega)).trans (by assumption) | go_keep | (simp [go_sem, *]; done)))) (first | (go_at_call 60; refine (HD.out _ byB).mono ?_; rintro e w1 ⟨rfl, hb_w1⟩; refine have_then (P := Below w.heap.size w w1) byB (fun h_w1 => ?_); have s_w1 := Below.size h_w1; have t_w1 := Below.size hb_w1; (try simp at t_w1); revert hb_w1; intro hb_w1))
      all_goals
        go_wp2_with fail
        exact ⟨⟨i + 1, by omega, by go_num, byB⟩, by simp [intOf]; omega⟩
    · obtain rfl : i = ds.length := by omega
      go_wp2_with fail
      go_ret
      exact ⟨rfl, hbr⟩
end Go.Proofs.Ytinlmkhlgclbfab
end

section
namespace Go.Proofs.Ytinlmkhlgclbfab
open Go.RowKit

theorem flat_at {T : Type} {k : Nat} {f : T → List Value} (hf : ∀ x, (f x).length = k) : ∀ (l : List T) (q r : Nat) (hq : q < l.length), r < k → (l.flatMap f)[q * k + r]? = (f l[q])[r]? := by
  intro l
  induction l with
  | nil => intro q r hq; simp at hq
  | cons x l ih =>
    intro q r hq hr
    cases q with
    | zero => simp only [List.flatMap_cons, Nat.zero_mul, Nat.zero_add, List.getElem_cons_zero]; rw [List.getElem?_append_left (by rw [hf]; exact hr)]
    | succ q =>
      simp only [List.flatMap_cons, List.getElem_cons_succ]
      rw [List.getElem?_append_right (by rw [hf, Nat.add_mul]; omega), hf]
      rw [show (q + 1) * k + r - k = q * k + r by rw [Nat.add_mul]; omega]
      exact ih q r (by simpa using hq) hr
theorem sl_block {T : Type} {k : Nat} {f : T → List Value} {hf : ∀ x, (f x).length = k} {I : Nat → Prop} {w : World} {g n : Nat} {t : TypeId} {cs : Array Value} {xs : List T} (h : w.heap[g]? = some (.cells cs t (0, 0))) (hcs : cs.toList = xs.flatMap f) (hI : I g) (hn : xs.length ≤ n) (hm : n ≤ maxLen) :
    Sl (Cod.flat k f hf) I w (some ⟨g, 0, none⟩) n xs := by
  refine ⟨hn, hm, fun e => (by cases e), fun i hi => ⟨g, 0, f xs[i], rfl, hI, rfl, fun j u hu => ?_⟩⟩
  rw [(blk h).1]
  have hj : j < k := by have := (List.getElem?_eq_some_iff.1 hu).1; rw [hf] at this; exact this
  show cs[0 + i * k + j]? = _
  rw [Nat.zero_add, ← Array.getElem?_toList, hcs, flat_at hf xs i j hi hj]
  exact hu
end Go.Proofs.Ytinlmkhlgclbfab
end

section
namespace Go.Proofs.Ytinlmkhlgclbfab
open Go.RowKit
set_option maxRecDepth 100000
set_option maxHeartbeats 1000000

def oneCfg : TCfg := ⟨1, 1, 1, 10, 4, [⟨0, 100⟩], [], [], [⟨0, 50, 40, 30⟩]⟩
theorem oneCfg_check : checkConfig oneCfg = 0 := by decide +kernel
/-- a call that hands back a config of its own -/
def RetCfg (c : TCfg) (w : World) (e : Ending) (w' : World) : Prop := ∃ S, e = .returned (.agg #[.int .i64 c.sets, .int .i64 c.ways, .int .i64 c.doms, .int .i64 c.pad, .int .i64 c.quantum, .slice S.a0 c.slots.length S.n0, .slice S.a1 c.owners.length S.n1, .slice S.a2 c.chans.length S.n2, .slice S.a3 c.tasks.length S.n3]) ∧ TCfg.At (Rng w.heap.size w'.heap.size) w' c S ∧ Below w.heap.size w w'

theorem lawOne (w : World) : Calls Try.prog 49 #[] w (RetCfg oneCfg w) := by
  go_enter Try.func49, Try.ntmps49
  go_wp2_with fail
  refine bodyPost_ret (v := .agg #[.int .i64 1, .int .i64 1, .int .i64 1, .int .i64 10, .int .i64 4, .slice (some ⟨w.heap.size + 1, 0, none⟩) 1 1, .slice none 0 0, .slice none 0 0, .slice (some ⟨w.heap.size + 2, 0, none⟩) 1 1]) (by simp [results, Try.results49, go_sem, *]) rfl ?_
  refine ⟨⟨some ⟨w.heap.size + 1, 0, none⟩, 1, none, 0, none, 0, some ⟨w.heap.size + 2, 0, none⟩, 1⟩, rfl, ⟨?_, Sl.empty _ _ _, Sl.empty _ _ _, ?_⟩, byB⟩
  · exact sl_block (cs := #[.int .i64 0, .int .i64 100]) (t := 37) byH rfl (by simp only [Rng]; simp) (Nat.le_refl _) (by simp [maxLen, oneCfg])
  · exact sl_block (cs := #[.int .i64 0, .int .i64 50, .int .i64 40, .int .i64 30]) (t := 103) byH rfl (by simp only [Rng]; simp) (Nat.le_refl _) (by simp [maxLen, oneCfg])
end Go.Proofs.Ytinlmkhlgclbfab
end
