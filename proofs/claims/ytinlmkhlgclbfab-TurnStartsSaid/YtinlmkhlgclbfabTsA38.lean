/- LawTurnS -/
import Derived.Test.YtinlmkhlgclbfabTsA36
import Derived.Test.YtinlmkhlgclbfabTsA37
namespace Go.Proofs.Ytinlmkhlgclbfab
open Go.RowKit
set_option maxRecDepth 100000
set_option maxHeartbeats 8000000

theorem start_next {c : TCfg} {r : Int} {s : Nat} (hs : s < c.slots.length) : (s + 1 < c.slots.length → startOf c r ((s + 1 : Nat) : Int) = startOf c r s + (nth c.slots s).len) ∧ (s + 1 = c.slots.length → startOf c (r + 1) 0 = startOf c r s + (nth c.slots s).len) := by
  constructor
  · intro _
    unfold startOf
    simp only [Int.toNat_natCast]
    show r * roundOf c + (aheadOf c s + (nth c.slots s).len) = _
    omega
  · intro h
    have : roundOf c = aheadOf c s + (nth c.slots s).len := by unfold roundOf; rw [← h]; rfl
    unfold startOf
    simp only [Int.toNat_natCast]
    rw [Int.add_mul, Int.one_mul]
    show r * roundOf c + roundOf c + 0 = _
    omega

theorem lawTurnStarts_a (c : TCfg) (S : TCfgS) (r s : Int) (B : Nat) (w : World) (hB : B ≤ w.heap.size) (hs : TCfg.At (Low B) w c S) (e1 : checkConfig c ≠ 0) :
    Calls Try.prog 3 #[.agg #[.int .i64 c.sets, .int .i64 c.ways, .int .i64 c.doms, .int .i64 c.pad, .int .i64 c.quantum, .slice S.a0 c.slots.length S.n0, .slice S.a1 c.owners.length S.n1, .slice S.a2 c.chans.length S.n2, .slice S.a3 c.tasks.length S.n3], .int .i64 r, .int .i64 s] w fun en w' => en = .returned (.bool true) ∧ Below w.heap.size w w' := by
  have H1 := Lib.hid (fun W (h : Below w.heap.size w W) => turnLength c S B W (Nat.le_trans hB h.size) (hs.next hB h))
  have H2 := Lib.hid (fun W (h : Below w.heap.size w W) => turnStart c S r s B W (Nat.le_trans hB h.size) (hs.next hB h))
  have H3 := Lib.hid (fun W (h : Below w.heap.size w W) => refCheckConfig c S B W (Nat.le_trans hB h.size) (hs.next hB h))
  have H4 := Lib.hid (fun W => lawTurnBegun W)
  have R : startErr c r s = checkConfig c := by unfold startErr; rw [if_pos e1]
  rw [if_neg e1] at H1
  rw [R, if_neg e1] at H2
  have b1 : (checkConfig c == 0) = false := by simp [e1]
  have b2 : (checkConfig c != 0) = true := by simp [e1]
  clear e1 hs R
  generalize checkConfig c = CE at *
  go_enter Try.func3, Try.ntmps3
  go_wp2_with fail
  (go_at_call 10; refine (H1.out _ byB).mono ?_; rintro e w1 ⟨rfl, hb_w1⟩; refine have_then (P := w1.heap[w.heap.size]? = some (.cells #[.int .i64 c.sets, .int .i64 c.ways, .int .i64 c.doms, .int .i64 c.pad, .int .i64 c.quantum, .slice S.a0 c.slots.length S.n0, .slice S.a1 c.owners.length S.n1, .slice S.a2 c.chans.length S.n2, .slice S.a3 c.tasks.length S.n3] 27)) ((hb_w1.block _ byS).trans byH) (fun c_w1 => ?_); obtain ⟨cc_w1, fc_w1, zc_w1⟩ := blk c_w1; refine have_then (P := Below w.heap.size w w1) byB (fun h_w1 => ?_); have s_w1 := Below.size h_w1; have t_w1 := Below.size hb_w1; (try simp at t_w1); revert hb_w1; intro hb_w1)
  go_wp2_with fail
  (go_at_call 11; refine (H2.out _ byB).mono ?_; rintro e w2 ⟨rfl, hb_w2⟩; refine have_then (P := w2.heap[w.heap.size]? = some (.cells #[.int .i64 c.sets, .int .i64 c.ways, .int .i64 c.doms, .int .i64 c.pad, .int .i64 c.quantum, .slice S.a0 c.slots.length S.n0, .slice S.a1 c.owners.length S.n1, .slice S.a2 c.chans.length S.n2, .slice S.a3 c.tasks.length S.n3] 27)) ((hb_w2.block _ byS).trans byH) (fun c_w2 => ?_); obtain ⟨cc_w2, fc_w2, zc_w2⟩ := blk c_w2; refine have_then (P := Below w.heap.size w w2) byB (fun h_w2 => ?_); have s_w2 := Below.size h_w2; have t_w2 := Below.size hb_w2; (try simp at t_w2); revert hb_w2; intro hb_w2; clear c_w1 cc_w1 fc_w1)
  go_wp2_with fail
  (go_at_call 12; refine (H3.out _ byB).mono ?_; rintro e w3 ⟨rfl, hb_w3⟩; refine have_then (P := w3.heap[w.heap.size]? = some (.cells #[.int .i64 c.sets, .int .i64 c.ways, .int .i64 c.doms, .int .i64 c.pad, .int .i64 c.quantum, .slice S.a0 c.slots.length S.n0, .slice S.a1 c.owners.length S.n1, .slice S.a2 c.chans.length S.n2, .slice S.a3 c.tasks.length S.n3] 27)) ((hb_w3.block _ byS).trans byH) (fun c_w3 => ?_); obtain ⟨cc_w3, fc_w3, zc_w3⟩ := blk c_w3; refine have_then (P := Below w.heap.size w w3) byB (fun h_w3 => ?_); have s_w3 := Below.size h_w3; have t_w3 := Below.size hb_w3; (try simp at t_w3); revert hb_w3; intro hb_w3; clear c_w2 cc_w2 fc_w2)
  go_wp2_with fail
  (go_at_call 15; refine (H4.out _).mono ?_; rintro e w4 ⟨rfl, hb_w4⟩; refine have_then (P := w4.heap[w.heap.size]? = some (.cells #[.int .i64 c.sets, .int .i64 c.ways, .int .i64 c.doms, .int .i64 c.pad, .int .i64 c.quantum, .slice S.a0 c.slots.length S.n0, .slice S.a1 c.owners.length S.n1, .slice S.a2 c.chans.length S.n2, .slice S.a3 c.tasks.length S.n3] 27)) ((hb_w4.block _ byS).trans byH) (fun c_w4 => ?_); obtain ⟨cc_w4, fc_w4, zc_w4⟩ := blk c_w4; refine have_then (P := Below w.heap.size w w4) byB (fun h_w4 => ?_); have s_w4 := Below.size h_w4; have t_w4 := Below.size hb_w4; (try simp at t_w4); revert hb_w4; intro hb_w4; clear c_w3 cc_w3 fc_w3)
  go_wp2_with fail
  go_ret
  exact ⟨rfl, byB⟩
theorem lawTurnStarts_b (c : TCfg) (S : TCfgS) (r s : Int) (B : Nat) (w : World) (hB : B ≤ w.heap.size) (hs : TCfg.At (Low B) w c S) (e1 : checkConfig c = 0) (e2 : r < 0) :
    Calls Try.prog 3 #[.agg #[.int .i64 c.sets, .int .i64 c.ways, .int .i64 c.doms, .int .i64 c.pad, .int .i64 c.quantum, .slice S.a0 c.slots.length S.n0, .slice S.a1 c.owners.length S.n1, .slice S.a2 c.chans.length S.n2, .slice S.a3 c.tasks.length S.n3], .int .i64 r, .int .i64 s] w fun en w' => en = .returned (.bool true) ∧ Below w.heap.size w w' := by
  have H1 := Lib.hid (fun W (h : Below w.heap.size w W) => turnLength c S B W (Nat.le_trans hB h.size) (hs.next hB h))
  have H2 := Lib.hid (fun W (h : Below w.heap.size w W) => turnStart c S r s B W (Nat.le_trans hB h.size) (hs.next hB h))
  have H3 := Lib.hid (fun W (h : Below w.heap.size w W) => refCheckConfig c S B W (Nat.le_trans hB h.size) (hs.next hB h))
  have H4 := Lib.hid (fun W => lawTurnBegun W)
  have ok := checkConfig_ok e1
  have R : startErr c r s = 3 := by unfold startErr; rw [if_neg (by simp [e1]), if_pos (by rw [Bool.not_eq_true', inB_false]; exact .inl e2)]
  have H5 := Lib.hid (fun W (h : Below w.heap.size w W) => refRoundOf c S ok B W (Nat.le_trans hB h.size) (hs.next hB h))
  have n6 := ok.nslots
  rw [if_pos e1, e1] at H1
  rw [R, if_neg (by decide)] at H2
  rw [e1] at H3
  have b1 : decide (r < 0) = true := by simpa using e2
  clear e1 hs R ok
  generalize roundOf c = RO at *
  go_enter Try.func3, Try.ntmps3
  go_wp2_with fail
  (go_at_call 10; refine (H1.out _ byB).mono ?_; rintro e w1 ⟨rfl, hb_w1⟩; refine have_then (P := w1.heap[w.heap.size]? = some (.cells #[.int .i64 c.sets, .int .i64 c.ways, .int .i64 c.doms, .int .i64 c.pad, .int .i64 c.quantum, .slice S.a0 c.slots.length S.n0, .slice S.a1 c.owners.length S.n1, .slice S.a2 c.chans.length S.n2, .slice S.a3 c.tasks.length S.n3] 27)) ((hb_w1.block _ byS).trans byH) (fun c_w1 => ?_); obtain ⟨cc_w1, fc_w1, zc_w1⟩ := blk c_w1; refine have_then (P := Below w.heap.size w w1) byB (fun h_w1 => ?_); have s_w1 := Below.size h_w1; have t_w1 := Below.size hb_w1; (try simp at t_w1); revert hb_w1; intro hb_w1)
  go_wp2_with fail
  (go_at_call 11; refine (H2.out _ byB).mono ?_; rintro e w2 ⟨rfl, hb_w2⟩; refine have_then (P := w2.heap[w.heap.size]? = some (.cells #[.int .i64 c.sets, .int .i64 c.ways, .int .i64 c.doms, .int .i64 c.pad, .int .i64 c.quantum, .slice S.a0 c.slots.length S.n0, .slice S.a1 c.owners.length S.n1, .slice S.a2 c.chans.length S.n2, .slice S.a3 c.tasks.length S.n3] 27)) ((hb_w2.block _ byS).trans byH) (fun c_w2 => ?_); obtain ⟨cc_w2, fc_w2, zc_w2⟩ := blk c_w2; refine have_then (P := Below w.heap.size w w2) byB (fun h_w2 => ?_); have s_w2 := Below.size h_w2; have t_w2 := Below.size hb_w2; (try simp at t_w2); revert hb_w2; intro hb_w2; clear c_w1 cc_w1 fc_w1)
  go_wp2_with fail
  (go_at_call 12; refine (H3.out _ byB).mono ?_; rintro e w3 ⟨rfl, hb_w3⟩; refine have_then (P := w3.heap[w.heap.size]? = some (.cells #[.int .i64 c.sets, .int .i64 c.ways, .int .i64 c.doms, .int .i64 c.pad, .int .i64 c.quantum, .slice S.a0 c.slots.length S.n0, .slice S.a1 c.owners.length S.n1, .slice S.a2 c.chans.length S.n2, .slice S.a3 c.tasks.length S.n3] 27)) ((hb_w3.block _ byS).trans byH) (fun c_w3 => ?_); obtain ⟨cc_w3, fc_w3, zc_w3⟩ := blk c_w3; refine have_then (P := Below w.heap.size w w3) byB (fun h_w3 => ?_); have s_w3 := Below.size h_w3; have t_w3 := Below.size hb_w3; (try simp at t_w3); revert hb_w3; intro hb_w3; clear c_w2 cc_w2 fc_w2)
  go_wp2_with fail
  (go_at_call 13; refine (H5.out _ byB).mono ?_; rintro e w4 ⟨rfl, hb_w4⟩; refine have_then (P := w4.heap[w.heap.size]? = some (.cells #[.int .i64 c.sets, .int .i64 c.ways, .int .i64 c.doms, .int .i64 c.pad, .int .i64 c.quantum, .slice S.a0 c.slots.length S.n0, .slice S.a1 c.owners.length S.n1, .slice S.a2 c.chans.length S.n2, .slice S.a3 c.tasks.length S.n3] 27)) ((hb_w4.block _ byS).trans byH) (fun c_w4 => ?_); obtain ⟨cc_w4, fc_w4, zc_w4⟩ := blk c_w4; refine have_then (P := Below w.heap.size w w4) byB (fun h_w4 => ?_); have s_w4 := Below.size h_w4; have t_w4 := Below.size hb_w4; (try simp at t_w4); revert hb_w4; intro hb_w4; clear c_w3 cc_w3 fc_w3)
  go_wp2_with fail
  (go_at_call 15; refine (H4.out _).mono ?_; rintro e w5 ⟨rfl, hb_w5⟩; refine have_then (P := w5.heap[w.heap.size]? = some (.cells #[.int .i64 c.sets, .int .i64 c.ways, .int .i64 c.doms, .int .i64 c.pad, .int .i64 c.quantum, .slice S.a0 c.slots.length S.n0, .slice S.a1 c.owners.length S.n1, .slice S.a2 c.chans.length S.n2, .slice S.a3 c.tasks.length S.n3] 27)) ((hb_w5.block _ byS).trans byH) (fun c_w5 => ?_); obtain ⟨cc_w5, fc_w5, zc_w5⟩ := blk c_w5; refine have_then (P := Below w.heap.size w w5) byB (fun h_w5 => ?_); have s_w5 := Below.size h_w5; have t_w5 := Below.size hb_w5; (try simp at t_w5); revert hb_w5; intro hb_w5; clear c_w4 cc_w4 fc_w4)
  go_wp2_with fail
  go_ret
  exact ⟨rfl, byB⟩
theorem lawTurnStarts_c (c : TCfg) (S : TCfgS) (r s : Int) (B : Nat) (w : World) (hB : B ≤ w.heap.size) (hs : TCfg.At (Low B) w c S) (e1 : checkConfig c = 0) (e2 : 0 ≤ r) (e3 : 8 < r) :
    Calls Try.prog 3 #[.agg #[.int .i64 c.sets, .int .i64 c.ways, .int .i64 c.doms, .int .i64 c.pad, .int .i64 c.quantum, .slice S.a0 c.slots.length S.n0, .slice S.a1 c.owners.length S.n1, .slice S.a2 c.chans.length S.n2, .slice S.a3 c.tasks.length S.n3], .int .i64 r, .int .i64 s] w fun en w' => en = .returned (.bool true) ∧ Below w.heap.size w w' := by
  have H1 := Lib.hid (fun W (h : Below w.heap.size w W) => turnLength c S B W (Nat.le_trans hB h.size) (hs.next hB h))
  have H2 := Lib.hid (fun W (h : Below w.heap.size w W) => turnStart c S r s B W (Nat.le_trans hB h.size) (hs.next hB h))
  have H3 := Lib.hid (fun W (h : Below w.heap.size w W) => refCheckConfig c S B W (Nat.le_trans hB h.size) (hs.next hB h))
  have H4 := Lib.hid (fun W => lawTurnBegun W)
  have ok := checkConfig_ok e1
  have R : startErr c r s = 3 := by unfold startErr; rw [if_neg (by simp [e1]), if_pos (by rw [Bool.not_eq_true', inB_false]; exact .inr e3)]
  have H5 := Lib.hid (fun W (h : Below w.heap.size w W) => refRoundOf c S ok B W (Nat.le_trans hB h.size) (hs.next hB h))
  have n6 := ok.nslots
  rw [if_pos e1, e1] at H1
  rw [R, if_neg (by decide)] at H2
  rw [e1] at H3
  have b1 : decide (r < 0) = false := by simp; omega
  have b2 : decide (r > 8) = true := by simpa using e3
  clear e1 hs R ok
  generalize roundOf c = RO at *
  go_enter Try.func3, Try.ntmps3
  go_wp2_with fail
  (go_at_call 10; refine (H1.out _ byB).mono ?_; rintro e w1 ⟨rfl, hb_w1⟩; refine have_then (P := w1.heap[w.heap.size]? = some (.cells #[.int .i64 c.sets, .int .i64 c.ways, .int .i64 c.doms, .int .i64 c.pad, .int .i64 c.quantum, .slice S.a0 c.slots.length S.n0, .slice S.a1 c.owners.length S.n1, .slice S.a2 c.chans.length S.n2, .slice S.a3 c.tasks.length S.n3] 27)) ((hb_w1.block _ byS).trans byH) (fun c_w1 => ?_); obtain ⟨cc_w1, fc_w1, zc_w1⟩ := blk c_w1; refine have_then (P := Below w.heap.size w w1) byB (fun h_w1 => ?_); have s_w1 := Below.size h_w1; have t_w1 := Below.size hb_w1; (try simp at t_w1); revert hb_w1; intro hb_w1)
  go_wp2_with fail
  (go_at_call 11; refine (H2.out _ byB).mono ?_; rintro e w2 ⟨rfl, hb_w2⟩; refine have_then (P := w2.heap[w.heap.size]? = some (.cells #[.int .i64 c.sets, .int .i64 c.ways, .int .i64 c.doms, .int .i64 c.pad, .int .i64 c.quantum, .slice S.a0 c.slots.length S.n0, .slice S.a1 c.owners.length S.n1, .slice S.a2 c.chans.length S.n2, .slice S.a3 c.tasks.length S.n3] 27)) ((hb_w2.block _ byS).trans byH) (fun c_w2 => ?_); obtain ⟨cc_w2, fc_w2, zc_w2⟩ := blk c_w2; refine have_then (P := Below w.heap.size w w2) byB (fun h_w2 => ?_); have s_w2 := Below.size h_w2; have t_w2 := Below.size hb_w2; (try simp at t_w2); revert hb_w2; intro hb_w2; clear c_w1 cc_w1 fc_w1)
  go_wp2_with fail
  (go_at_call 12; refine (H3.out _ byB).mono ?_; rintro e w3 ⟨rfl, hb_w3⟩; refine have_then (P := w3.heap[w.heap.size]? = some (.cells #[.int .i64 c.sets, .int .i64 c.ways, .int .i64 c.doms, .int .i64 c.pad, .int .i64 c.quantum, .slice S.a0 c.slots.length S.n0, .slice S.a1 c.owners.length S.n1, .slice S.a2 c.chans.length S.n2, .slice S.a3 c.tasks.length S.n3] 27)) ((hb_w3.block _ byS).trans byH) (fun c_w3 => ?_); obtain ⟨cc_w3, fc_w3, zc_w3⟩ := blk c_w3; refine have_then (P := Below w.heap.size w w3) byB (fun h_w3 => ?_); have s_w3 := Below.size h_w3; have t_w3 := Below.size hb_w3; (try simp at t_w3); revert hb_w3; intro hb_w3; clear c_w2 cc_w2 fc_w2)
  go_wp2_with fail
  (go_at_call 13; refine (H5.out _ byB).mono ?_; rintro e w4 ⟨rfl, hb_w4⟩; refine have_then (P := w4.heap[w.heap.size]? = some (.cells #[.int .i64 c.sets, .int .i64 c.ways, .int .i64 c.doms, .int .i64 c.pad, .int .i64 c.quantum, .slice S.a0 c.slots.length S.n0, .slice S.a1 c.owners.length S.n1, .slice S.a2 c.chans.length S.n2, .slice S.a3 c.tasks.length S.n3] 27)) ((hb_w4.block _ byS).trans byH) (fun c_w4 => ?_); obtain ⟨cc_w4, fc_w4, zc_w4⟩ := blk c_w4; refine have_then (P := Below w.heap.size w w4) byB (fun h_w4 => ?_); have s_w4 := Below.size h_w4; have t_w4 := Below.size hb_w4; (try simp at t_w4); revert hb_w4; intro hb_w4; clear c_w3 cc_w3 fc_w3)
  go_wp2_with fail
  (go_at_call 15; refine (H4.out _).mono ?_; rintro e w5 ⟨rfl, hb_w5⟩; refine have_then (P := w5.heap[w.heap.size]? = some (.cells #[.int .i64 c.sets, .int .i64 c.ways, .int .i64 c.doms, .int .i64 c.pad, .int .i64 c.quantum, .slice S.a0 c.slots.length S.n0, .slice S.a1 c.owners.length S.n1, .slice S.a2 c.chans.length S.n2, .slice S.a3 c.tasks.length S.n3] 27)) ((hb_w5.block _ byS).trans byH) (fun c_w5 => ?_); obtain ⟨cc_w5, fc_w5, zc_w5⟩ := blk c_w5; refine have_then (P := Below w.heap.size w w5) byB (fun h_w5 => ?_); have s_w5 := Below.size h_w5; have t_w5 := Below.size hb_w5; (try simp at t_w5); revert hb_w5; intro hb_w5; clear c_w4 cc_w4 fc_w4)
  go_wp2_with fail
  go_ret
  exact ⟨rfl, byB⟩
theorem lawTurnStarts_d (c : TCfg) (S : TCfgS) (r s : Int) (B : Nat) (w : World) (hB : B ≤ w.heap.size) (hs : TCfg.At (Low B) w c S) (e1 : checkConfig c = 0) (e2 : 0 ≤ r) (e3 : r ≤ 8) (e4 : s < 0) :
    Calls Try.prog 3 #[.agg #[.int .i64 c.sets, .int .i64 c.ways, .int .i64 c.doms, .int .i64 c.pad, .int .i64 c.quantum, .slice S.a0 c.slots.length S.n0, .slice S.a1 c.owners.length S.n1, .slice S.a2 c.chans.length S.n2, .slice S.a3 c.tasks.length S.n3], .int .i64 r, .int .i64 s] w fun en w' => en = .returned (.bool true) ∧ Below w.heap.size w w' := by
  have H1 := Lib.hid (fun W (h : Below w.heap.size w W) => turnLength c S B W (Nat.le_trans hB h.size) (hs.next hB h))
  have H2 := Lib.hid (fun W (h : Below w.heap.size w W) => turnStart c S r s B W (Nat.le_trans hB h.size) (hs.next hB h))
  have H3 := Lib.hid (fun W (h : Below w.heap.size w W) => refCheckConfig c S B W (Nat.le_trans hB h.size) (hs.next hB h))
  have H4 := Lib.hid (fun W => lawTurnBegun W)
  have ok := checkConfig_ok e1
  have R : startErr c r s = 5 := by unfold startErr; rw [if_neg (by simp [e1]), if_neg (by simp [inB_true.2 (⟨e2, e3⟩ : 0 ≤ r ∧ r ≤ 8)]), if_pos (by simp [isSlot]; omega)]
  have H5 := Lib.hid (fun W (h : Below w.heap.size w W) => refRoundOf c S ok B W (Nat.le_trans hB h.size) (hs.next hB h))
  have n6 := ok.nslots
  rw [if_pos e1, e1] at H1
  rw [R, if_neg (by decide)] at H2
  rw [e1] at H3
  have b1 : decide (r < 0) = false := by simp; omega
  have b2 : decide (r > 8) = false := by simp; omega
  have b3 : decide (s < 0) = true := by simpa using e4
  clear e1 hs R ok
  generalize roundOf c = RO at *
  go_enter Try.func3, Try.ntmps3
  go_wp2_with fail
  (go_at_call 10; refine (H1.out _ byB).mono ?_; rintro e w1 ⟨rfl, hb_w1⟩; refine have_then (P := w1.heap[w.heap.size]? = some (.cells #[.int .i64 c.sets, .int .i64 c.ways, .int .i64 c.doms, .int .i64 c.pad, .int .i64 c.quantum, .slice S.a0 c.slots.length S.n0, .slice S.a1 c.owners.length S.n1, .slice S.a2 c.chans.length S.n2, .slice S.a3 c.tasks.length S.n3] 27)) ((hb_w1.block _ byS).trans byH) (fun c_w1 => ?_); obtain ⟨cc_w1, fc_w1, zc_w1⟩ := blk c_w1; refine have_then (P := Below w.heap.size w w1) byB (fun h_w1 => ?_); have s_w1 := Below.size h_w1; have t_w1 := Below.size hb_w1; (try simp at t_w1); revert hb_w1; intro hb_w1)
  go_wp2_with fail
  (go_at_call 11; refine (H2.out _ byB).mono ?_; rintro e w2 ⟨rfl, hb_w2⟩; refine have_then (P := w2.heap[w.heap.size]? = some (.cells #[.int .i64 c.sets, .int .i64 c.ways, .int .i64 c.doms, .int .i64 c.pad, .int .i64 c.quantum, .slice S.a0 c.slots.length S.n0, .slice S.a1 c.owners.length S.n1, .slice S.a2 c.chans.length S.n2, .slice S.a3 c.tasks.length S.n3] 27)) ((hb_w2.block _ byS).trans byH) (fun c_w2 => ?_); obtain ⟨cc_w2, fc_w2, zc_w2⟩ := blk c_w2; refine have_then (P := Below w.heap.size w w2) byB (fun h_w2 => ?_); have s_w2 := Below.size h_w2; have t_w2 := Below.size hb_w2; (try simp at t_w2); revert hb_w2; intro hb_w2; clear c_w1 cc_w1 fc_w1)
  go_wp2_with fail
  (go_at_call 12; refine (H3.out _ byB).mono ?_; rintro e w3 ⟨rfl, hb_w3⟩; refine have_then (P := w3.heap[w.heap.size]? = some (.cells #[.int .i64 c.sets, .int .i64 c.ways, .int .i64 c.doms, .int .i64 c.pad, .int .i64 c.quantum, .slice S.a0 c.slots.length S.n0, .slice S.a1 c.owners.length S.n1, .slice S.a2 c.chans.length S.n2, .slice S.a3 c.tasks.length S.n3] 27)) ((hb_w3.block _ byS).trans byH) (fun c_w3 => ?_); obtain ⟨cc_w3, fc_w3, zc_w3⟩ := blk c_w3; refine have_then (P := Below w.heap.size w w3) byB (fun h_w3 => ?_); have s_w3 := Below.size h_w3; have t_w3 := Below.size hb_w3; (try simp at t_w3); revert hb_w3; intro hb_w3; clear c_w2 cc_w2 fc_w2)
  go_wp2_with fail
  (go_at_call 13; refine (H5.out _ byB).mono ?_; rintro e w4 ⟨rfl, hb_w4⟩; refine have_then (P := w4.heap[w.heap.size]? = some (.cells #[.int .i64 c.sets, .int .i64 c.ways, .int .i64 c.doms, .int .i64 c.pad, .int .i64 c.quantum, .slice S.a0 c.slots.length S.n0, .slice S.a1 c.owners.length S.n1, .slice S.a2 c.chans.length S.n2, .slice S.a3 c.tasks.length S.n3] 27)) ((hb_w4.block _ byS).trans byH) (fun c_w4 => ?_); obtain ⟨cc_w4, fc_w4, zc_w4⟩ := blk c_w4; refine have_then (P := Below w.heap.size w w4) byB (fun h_w4 => ?_); have s_w4 := Below.size h_w4; have t_w4 := Below.size hb_w4; (try simp at t_w4); revert hb_w4; intro hb_w4; clear c_w3 cc_w3 fc_w3)
  go_wp2_with fail
  (go_at_call 15; refine (H4.out _).mono ?_; rintro e w5 ⟨rfl, hb_w5⟩; refine have_then (P := w5.heap[w.heap.size]? = some (.cells #[.int .i64 c.sets, .int .i64 c.ways, .int .i64 c.doms, .int .i64 c.pad, .int .i64 c.quantum, .slice S.a0 c.slots.length S.n0, .slice S.a1 c.owners.length S.n1, .slice S.a2 c.chans.length S.n2, .slice S.a3 c.tasks.length S.n3] 27)) ((hb_w5.block _ byS).trans byH) (fun c_w5 => ?_); obtain ⟨cc_w5, fc_w5, zc_w5⟩ := blk c_w5; refine have_then (P := Below w.heap.size w w5) byB (fun h_w5 => ?_); have s_w5 := Below.size h_w5; have t_w5 := Below.size hb_w5; (try simp at t_w5); revert hb_w5; intro hb_w5; clear c_w4 cc_w4 fc_w4)
  go_wp2_with fail
  go_ret
  exact ⟨rfl, byB⟩
theorem lawTurnStarts_e (c : TCfg) (S : TCfgS) (r s : Int) (B : Nat) (w : World) (hB : B ≤ w.heap.size) (hs : TCfg.At (Low B) w c S) (e1 : checkConfig c = 0) (e2 : 0 ≤ r) (e3 : r ≤ 8) (e4 : 0 ≤ s) (e5 : (c.slots.length : Int) ≤ s) :
    Calls Try.prog 3 #[.agg #[.int .i64 c.sets, .int .i64 c.ways, .int .i64 c.doms, .int .i64 c.pad, .int .i64 c.quantum, .slice S.a0 c.slots.length S.n0, .slice S.a1 c.owners.length S.n1, .slice S.a2 c.chans.length S.n2, .slice S.a3 c.tasks.length S.n3], .int .i64 r, .int .i64 s] w fun en w' => en = .returned (.bool true) ∧ Below w.heap.size w w' := by
  have H1 := Lib.hid (fun W (h : Below w.heap.size w W) => turnLength c S B W (Nat.le_trans hB h.size) (hs.next hB h))
  have H2 := Lib.hid (fun W (h : Below w.heap.size w W) => turnStart c S r s B W (Nat.le_trans hB h.size) (hs.next hB h))
  have H3 := Lib.hid (fun W (h : Below w.heap.size w W) => refCheckConfig c S B W (Nat.le_trans hB h.size) (hs.next hB h))
  have H4 := Lib.hid (fun W => lawTurnBegun W)
  have ok := checkConfig_ok e1
  have R : startErr c r s = 5 := by unfold startErr; rw [if_neg (by simp [e1]), if_neg (by simp [inB_true.2 (⟨e2, e3⟩ : 0 ≤ r ∧ r ≤ 8)]), if_pos (by simp [isSlot]; omega)]
  have H5 := Lib.hid (fun W (h : Below w.heap.size w W) => refRoundOf c S ok B W (Nat.le_trans hB h.size) (hs.next hB h))
  have n6 := ok.nslots
  rw [if_pos e1, e1] at H1
  rw [R, if_neg (by decide)] at H2
  rw [e1] at H3
  have b1 : decide (r < 0) = false := by simp; omega
  have b2 : decide (r > 8) = false := by simp; omega
  have b3 : decide (s < 0) = false := by simp; omega
  have b4 : decide (s ≥ (c.slots.length : Int)) = true := by simpa using e5
  clear e1 hs R ok
  generalize roundOf c = RO at *
  go_enter Try.func3, Try.ntmps3
  go_wp2_with fail
  (go_at_call 10; refine (H1.out _ byB).mono ?_; rintro e w1 ⟨rfl, hb_w1⟩; refine have_then (P := w1.heap[w.heap.size]? = some (.cells #[.int .i64 c.sets, .int .i64 c.ways, .int .i64 c.doms, .int .i64 c.pad, .int .i64 c.quantum, .slice S.a0 c.slots.length S.n0, .slice S.a1 c.owners.length S.n1, .slice S.a2 c.chans.length S.n2, .slice S.a3 c.tasks.length S.n3] 27)) ((hb_w1.block _ byS).trans byH) (fun c_w1 => ?_); obtain ⟨cc_w1, fc_w1, zc_w1⟩ := blk c_w1; refine have_then (P := Below w.heap.size w w1) byB (fun h_w1 => ?_); have s_w1 := Below.size h_w1; have t_w1 := Below.size hb_w1; (try simp at t_w1); revert hb_w1; intro hb_w1)
  go_wp2_with fail
  (go_at_call 11; refine (H2.out _ byB).mono ?_; rintro e w2 ⟨rfl, hb_w2⟩; refine have_then (P := w2.heap[w.heap.size]? = some (.cells #[.int .i64 c.sets, .int .i64 c.ways, .int .i64 c.doms, .int .i64 c.pad, .int .i64 c.quantum, .slice S.a0 c.slots.length S.n0, .slice S.a1 c.owners.length S.n1, .slice S.a2 c.chans.length S.n2, .slice S.a3 c.tasks.length S.n3] 27)) ((hb_w2.block _ byS).trans byH) (fun c_w2 => ?_); obtain ⟨cc_w2, fc_w2, zc_w2⟩ := blk c_w2; refine have_then (P := Below w.heap.size w w2) byB (fun h_w2 => ?_); have s_w2 := Below.size h_w2; have t_w2 := Below.size hb_w2; (try simp at t_w2); revert hb_w2; intro hb_w2; clear c_w1 cc_w1 fc_w1)
  go_wp2_with fail
  (go_at_call 12; refine (H3.out _ byB).mono ?_; rintro e w3 ⟨rfl, hb_w3⟩; refine have_then (P := w3.heap[w.heap.size]? = some (.cells #[.int .i64 c.sets, .int .i64 c.ways, .int .i64 c.doms, .int .i64 c.pad, .int .i64 c.quantum, .slice S.a0 c.slots.length S.n0, .slice S.a1 c.owners.length S.n1, .slice S.a2 c.chans.length S.n2, .slice S.a3 c.tasks.length S.n3] 27)) ((hb_w3.block _ byS).trans byH) (fun c_w3 => ?_); obtain ⟨cc_w3, fc_w3, zc_w3⟩ := blk c_w3; refine have_then (P := Below w.heap.size w w3) byB (fun h_w3 => ?_); have s_w3 := Below.size h_w3; have t_w3 := Below.size hb_w3; (try simp at t_w3); revert hb_w3; intro hb_w3; clear c_w2 cc_w2 fc_w2)
  go_wp2_with fail
  (go_at_call 13; refine (H5.out _ byB).mono ?_; rintro e w4 ⟨rfl, hb_w4⟩; refine have_then (P := w4.heap[w.heap.size]? = some (.cells #[.int .i64 c.sets, .int .i64 c.ways, .int .i64 c.doms, .int .i64 c.pad, .int .i64 c.quantum, .slice S.a0 c.slots.length S.n0, .slice S.a1 c.owners.length S.n1, .slice S.a2 c.chans.length S.n2, .slice S.a3 c.tasks.length S.n3] 27)) ((hb_w4.block _ byS).trans byH) (fun c_w4 => ?_); obtain ⟨cc_w4, fc_w4, zc_w4⟩ := blk c_w4; refine have_then (P := Below w.heap.size w w4) byB (fun h_w4 => ?_); have s_w4 := Below.size h_w4; have t_w4 := Below.size hb_w4; (try simp at t_w4); revert hb_w4; intro hb_w4; clear c_w3 cc_w3 fc_w3)
  go_wp2_with fail
  (go_at_call 15; refine (H4.out _).mono ?_; rintro e w5 ⟨rfl, hb_w5⟩; refine have_then (P := w5.heap[w.heap.size]? = some (.cells #[.int .i64 c.sets, .int .i64 c.ways, .int .i64 c.doms, .int .i64 c.pad, .int .i64 c.quantum, .slice S.a0 c.slots.length S.n0, .slice S.a1 c.owners.length S.n1, .slice S.a2 c.chans.length S.n2, .slice S.a3 c.tasks.length S.n3] 27)) ((hb_w5.block _ byS).trans byH) (fun c_w5 => ?_); obtain ⟨cc_w5, fc_w5, zc_w5⟩ := blk c_w5; refine have_then (P := Below w.heap.size w w5) byB (fun h_w5 => ?_); have s_w5 := Below.size h_w5; have t_w5 := Below.size hb_w5; (try simp at t_w5); revert hb_w5; intro hb_w5; clear c_w4 cc_w4 fc_w4)
  go_wp2_with fail
  go_ret
  exact ⟨rfl, byB⟩
theorem lawTurnStarts_f (c : TCfg) (S : TCfgS) (r s : Int) (B : Nat) (w : World) (hB : B ≤ w.heap.size) (hs : TCfg.At (Low B) w c S) (e1 : checkConfig c = 0) (e2 : 0 ≤ r) (e3 : r ≤ 8) (e4 : 0 ≤ s) (e5 : s < (c.slots.length : Int)) (e6 : r = 8) :
    Calls Try.prog 3 #[.agg #[.int .i64 c.sets, .int .i64 c.ways, .int .i64 c.doms, .int .i64 c.pad, .int .i64 c.quantum, .slice S.a0 c.slots.length S.n0, .slice S.a1 c.owners.length S.n1, .slice S.a2 c.chans.length S.n2, .slice S.a3 c.tasks.length S.n3], .int .i64 r, .int .i64 s] w fun en w' => en = .returned (.bool true) ∧ Below w.heap.size w w' := by
  have H1 := Lib.hid (fun W (h : Below w.heap.size w W) => turnLength c S B W (Nat.le_trans hB h.size) (hs.next hB h))
  have H2 := Lib.hid (fun W (h : Below w.heap.size w W) => turnStart c S r s B W (Nat.le_trans hB h.size) (hs.next hB h))
  have H3 := Lib.hid (fun W (h : Below w.heap.size w W) => refCheckConfig c S B W (Nat.le_trans hB h.size) (hs.next hB h))
  have H4 := Lib.hid (fun W => lawTurnBegun W)
  have ok := checkConfig_ok e1
  obtain ⟨sn, rfl⟩ := Int.eq_ofNat_of_zero_le e4
  have hsn : sn < c.slots.length := by omega
  have R : startErr c r sn = 0 := by unfold startErr; rw [if_neg (by simp [e1]), if_neg (by simp [inB_true.2 (⟨e2, e3⟩ : 0 ≤ r ∧ r ≤ 8)]), if_neg (by simp [isSlot]; omega)]
  have H5 := Lib.hid (fun W (h : Below w.heap.size w W) => refRoundOf c S ok B W (Nat.le_trans hB h.size) (hs.next hB h))
  have H6 := Lib.hid (fun W (h : Below w.heap.size w W) => refStartOf c S r sn ok ⟨e2, e3⟩ (by omega) B W (Nat.le_trans hB h.size) (hs.next hB h))
  have n6 := ok.nslots
  rw [if_pos e1, e1] at H1
  rw [R, if_pos rfl] at H2
  rw [e1] at H3
  have b1 : decide (r < 0) = false := by simp; omega
  have b2 : decide (r > 8) = false := by simp; omega
  have b4 : decide (sn ≥ c.slots.length) = false := by simp; omega
  have b5 : (r == 8) = true := by simp [e6]
  clear e1 hs R ok e6
  generalize roundOf c = RO at *
  generalize startOf c r sn = SO at *
  go_enter Try.func3, Try.ntmps3
  go_wp2_with fail
  (go_at_call 10; refine (H1.out _ byB).mono ?_; rintro e w1 ⟨rfl, hb_w1⟩; refine have_then (P := w1.heap[w.heap.size]? = some (.cells #[.int .i64 c.sets, .int .i64 c.ways, .int .i64 c.doms, .int .i64 c.pad, .int .i64 c.quantum, .slice S.a0 c.slots.length S.n0, .slice S.a1 c.owners.length S.n1, .slice S.a2 c.chans.length S.n2, .slice S.a3 c.tasks.length S.n3] 27)) ((hb_w1.block _ byS).trans byH) (fun c_w1 => ?_); obtain ⟨cc_w1, fc_w1, zc_w1⟩ := blk c_w1; refine have_then (P := Below w.heap.size w w1) byB (fun h_w1 => ?_); have s_w1 := Below.size h_w1; have t_w1 := Below.size hb_w1; (try simp at t_w1); revert hb_w1; intro hb_w1)
  go_wp2_with fail
  (go_at_call 11; refine (H2.out _ byB).mono ?_; rintro e w2 ⟨rfl, hb_w2⟩; refine have_then (P := w2.heap[w.heap.size]? = some (.cells #[.int .i64 c.sets, .int .i64 c.ways, .int .i64 c.doms, .int .i64 c.pad, .int .i64 c.quantum, .slice S.a0 c.slots.length S.n0, .slice S.a1 c.owners.length S.n1, .slice S.a2 c.chans.length S.n2, .slice S.a3 c.tasks.length S.n3] 27)) ((hb_w2.block _ byS).trans byH) (fun c_w2 => ?_); obtain ⟨cc_w2, fc_w2, zc_w2⟩ := blk c_w2; refine have_then (P := Below w.heap.size w w2) byB (fun h_w2 => ?_); have s_w2 := Below.size h_w2; have t_w2 := Below.size hb_w2; (try simp at t_w2); revert hb_w2; intro hb_w2; clear c_w1 cc_w1 fc_w1)
  go_wp2_with fail
  (go_at_call 12; refine (H3.out _ byB).mono ?_; rintro e w3 ⟨rfl, hb_w3⟩; refine have_then (P := w3.heap[w.heap.size]? = some (.cells #[.int .i64 c.sets, .int .i64 c.ways, .int .i64 c.doms, .int .i64 c.pad, .int .i64 c.quantum, .slice S.a0 c.slots.length S.n0, .slice S.a1 c.owners.length S.n1, .slice S.a2 c.chans.length S.n2, .slice S.a3 c.tasks.length S.n3] 27)) ((hb_w3.block _ byS).trans byH) (fun c_w3 => ?_); obtain ⟨cc_w3, fc_w3, zc_w3⟩ := blk c_w3; refine have_then (P := Below w.heap.size w w3) byB (fun h_w3 => ?_); have s_w3 := Below.size h_w3; have t_w3 := Below.size hb_w3; (try simp at t_w3); revert hb_w3; intro hb_w3; clear c_w2 cc_w2 fc_w2)
  go_wp2_with fail
  (go_at_call 13; refine (H5.out _ byB).mono ?_; rintro e w4 ⟨rfl, hb_w4⟩; refine have_then (P := w4.heap[w.heap.size]? = some (.cells #[.int .i64 c.sets, .int .i64 c.ways, .int .i64 c.doms, .int .i64 c.pad, .int .i64 c.quantum, .slice S.a0 c.slots.length S.n0, .slice S.a1 c.owners.length S.n1, .slice S.a2 c.chans.length S.n2, .slice S.a3 c.tasks.length S.n3] 27)) ((hb_w4.block _ byS).trans byH) (fun c_w4 => ?_); obtain ⟨cc_w4, fc_w4, zc_w4⟩ := blk c_w4; refine have_then (P := Below w.heap.size w w4) byB (fun h_w4 => ?_); have s_w4 := Below.size h_w4; have t_w4 := Below.size hb_w4; (try simp at t_w4); revert hb_w4; intro hb_w4; clear c_w3 cc_w3 fc_w3)
  go_wp2_with fail
  (go_at_call 14; refine (H6.out _ byB).mono ?_; rintro e w5 ⟨rfl, hb_w5⟩; refine have_then (P := w5.heap[w.heap.size]? = some (.cells #[.int .i64 c.sets, .int .i64 c.ways, .int .i64 c.doms, .int .i64 c.pad, .int .i64 c.quantum, .slice S.a0 c.slots.length S.n0, .slice S.a1 c.owners.length S.n1, .slice S.a2 c.chans.length S.n2, .slice S.a3 c.tasks.length S.n3] 27)) ((hb_w5.block _ byS).trans byH) (fun c_w5 => ?_); obtain ⟨cc_w5, fc_w5, zc_w5⟩ := blk c_w5; refine have_then (P := Below w.heap.size w w5) byB (fun h_w5 => ?_); have s_w5 := Below.size h_w5; have t_w5 := Below.size hb_w5; (try simp at t_w5); revert hb_w5; intro hb_w5; clear c_w4 cc_w4 fc_w4)
  go_wp2_with fail
  (go_at_call 15; refine (H4.out _).mono ?_; rintro e w6 ⟨rfl, hb_w6⟩; refine have_then (P := w6.heap[w.heap.size]? = some (.cells #[.int .i64 c.sets, .int .i64 c.ways, .int .i64 c.doms, .int .i64 c.pad, .int .i64 c.quantum, .slice S.a0 c.slots.length S.n0, .slice S.a1 c.owners.length S.n1, .slice S.a2 c.chans.length S.n2, .slice S.a3 c.tasks.length S.n3] 27)) ((hb_w6.block _ byS).trans byH) (fun c_w6 => ?_); obtain ⟨cc_w6, fc_w6, zc_w6⟩ := blk c_w6; refine have_then (P := Below w.heap.size w w6) byB (fun h_w6 => ?_); have s_w6 := Below.size h_w6; have t_w6 := Below.size hb_w6; (try simp at t_w6); revert hb_w6; intro hb_w6; clear c_w5 cc_w5 fc_w5)
  go_wp2_with fail
  go_ret
  exact ⟨rfl, byB⟩
theorem lawTurnStarts_g (c : TCfg) (S : TCfgS) (r s : Int) (B : Nat) (w : World) (hB : B ≤ w.heap.size) (hs : TCfg.At (Low B) w c S) (e1 : checkConfig c = 0) (e2 : 0 ≤ r) (e3 : r < 8) (e4 : 0 ≤ s) (e5 : s < (c.slots.length : Int)) (q m : Nat) (hq : (s + 1).tdiv c.slots.length = q) (hm : (s + 1).tmod c.slots.length = m) (hq1 : q ≤ 1) (hm1 : m < c.slots.length) (hst : startOf c (r + q) m = startOf c r s + (nth c.slots s.toNat).len) :
    Calls Try.prog 3 #[.agg #[.int .i64 c.sets, .int .i64 c.ways, .int .i64 c.doms, .int .i64 c.pad, .int .i64 c.quantum, .slice S.a0 c.slots.length S.n0, .slice S.a1 c.owners.length S.n1, .slice S.a2 c.chans.length S.n2, .slice S.a3 c.tasks.length S.n3], .int .i64 r, .int .i64 s] w fun en w' => en = .returned (.bool true) ∧ Below w.heap.size w w' := by
  have H1 := Lib.hid (fun W (h : Below w.heap.size w W) => turnLength c S B W (Nat.le_trans hB h.size) (hs.next hB h))
  have H2 := Lib.hid (fun W (h : Below w.heap.size w W) => turnStart c S r s B W (Nat.le_trans hB h.size) (hs.next hB h))
  have H3 := Lib.hid (fun W (h : Below w.heap.size w W) => refCheckConfig c S B W (Nat.le_trans hB h.size) (hs.next hB h))
  have H4 := Lib.hid (fun W => lawTurnBegun W)
  have ok := checkConfig_ok e1
  obtain ⟨sn, rfl⟩ := Int.eq_ofNat_of_zero_le e4
  have hsn : sn < c.slots.length := by omega
  have R : startErr c r sn = 0 := by unfold startErr; rw [if_neg (by simp [e1]), if_neg (by simp [inB_true.2 (⟨e2, Int.le_of_lt e3⟩ : 0 ≤ r ∧ r ≤ 8)]), if_neg (by simp [isSlot]; omega)]
  have H5 := Lib.hid (fun W (h : Below w.heap.size w W) => refRoundOf c S ok B W (Nat.le_trans hB h.size) (hs.next hB h))
  have H6 := Lib.hid (fun W (h : Below w.heap.size w W) => refStartOf c S r sn ok ⟨e2, Int.le_of_lt e3⟩ (by omega) B W (Nat.le_trans hB h.size) (hs.next hB h))
  have n6 := ok.nslots
  rw [if_pos e1, e1] at H1
  rw [R, if_pos rfl] at H2
  rw [e1] at H3
  have b1 : decide (r < 0) = false := by simp; omega
  have b2 : decide (r > 8) = false := by simp; omega
  have b4 : decide (sn ≥ c.slots.length) = false := by simp; omega
  have b5 : (r == 8) = false := by simp; omega
  have R2 : startErr c (r + q) m = 0 := by unfold startErr; rw [if_neg (by simp [e1]), if_neg (by simp [inB_true.2 (⟨by omega, by omega⟩ : 0 ≤ r + (q : Int) ∧ r + (q : Int) ≤ 8)]), if_neg (by simp [isSlot]; omega)]
  have H7 := Lib.hid (fun W (h : Below w.heap.size w W) => turnStart c S (r + q) m B W (Nat.le_trans hB h.size) (hs.next hB h))
  rw [R2, if_pos rfl, hst] at H7
  have hl := (ok.slot sn hsn).2.2
  have hw : 0 ≤ startOf c r sn ∧ startOf c r sn ≤ 1000000 := by have := startOf_rng ok (r := r) (s := sn) ⟨e2, by omega⟩ (by omega); unfold startOf; omega
  rw [Int.toNat_natCast] at H7
  have w1' : IntKind.i64.wrap ((sn : Int) + 1) = (sn : Int) + 1 := IntWalk.i64_in _ (by omega)
  have w2' : IntKind.i64.wrap (q : Int) = (q : Int) := IntWalk.i64_in _ (by omega)
  have w3' : IntKind.i64.wrap (m : Int) = (m : Int) := IntWalk.i64_in _ (by omega)
  have w4' : IntKind.i64.wrap (r + (q : Int)) = r + (q : Int) := IntWalk.i64_in _ (by omega)
  have hln : ¬ (c.slots.length : Int) = 0 := by omega
  have hln2 : ¬ c.slots.length = 0 := by omega
  have hln3 : ¬ c.slots = [] := by intro h; rw [h] at hsn; simp at hsn
  have hln4 : ((c.slots.length : Int) == 0) = false := by simp; exact hln3
  have i0 : (0 : Int) ≤ sn := by omega
  have i1 : (sn : Int) < c.slots.length := by omega
  obtain ⟨bs, os, es, hIs, _, ks⟩ := hs.s0.at_slot hsn
  have hbs : bs < w.heap.size := Nat.lt_of_lt_of_le hIs hB
  have KS := Lib.hid (fun W (h : Below w.heap.size w W) => (show W.cell? ⟨bs, os + sn * 2 + 1, none⟩ = some (.int .i64 (nth c.slots sn).len) from (h.cell (p := ⟨bs, _, none⟩) hbs).trans ks))
  obtain ⟨a0, n0, a1, n1, a2, n2, a3, n3⟩ := S
  dsimp only at es H1 H2 H3 H5 H6 H7 ⊢
  subst es
  clear e1 hs R ok R2 hst ks
  generalize roundOf c = RO at *
  generalize startOf c r sn = SO at *
  generalize (nth c.slots sn).len = LL at *
  have hw5 : IntKind.i64.wrap (SO + LL) = SO + LL := IntWalk.i64_in _ (by omega)
  go_enter Try.func3, Try.ntmps3
  go_wp2_with fail
  (go_at_call 10; refine (H1.out _ byB).mono ?_; rintro e w1 ⟨rfl, hb_w1⟩; refine have_then (P := w1.heap[w.heap.size]? = some (.cells #[.int .i64 c.sets, .int .i64 c.ways, .int .i64 c.doms, .int .i64 c.pad, .int .i64 c.quantum, .slice (some ⟨bs, os, none⟩) c.slots.length n0, .slice a1 c.owners.length n1, .slice a2 c.chans.length n2, .slice a3 c.tasks.length n3] 27)) ((hb_w1.block _ byS).trans byH) (fun c_w1 => ?_); obtain ⟨cc_w1, fc_w1, zc_w1⟩ := blk c_w1; refine have_then (P := Below w.heap.size w w1) byB (fun h_w1 => ?_); have s_w1 := Below.size h_w1; have t_w1 := Below.size hb_w1; (try simp at t_w1); revert hb_w1; intro hb_w1)
  go_wp2_with fail
  (go_at_call 11; refine (H2.out _ byB).mono ?_; rintro e w2 ⟨rfl, hb_w2⟩; refine have_then (P := w2.heap[w.heap.size]? = some (.cells #[.int .i64 c.sets, .int .i64 c.ways, .int .i64 c.doms, .int .i64 c.pad, .int .i64 c.quantum, .slice (some ⟨bs, os, none⟩) c.slots.length n0, .slice a1 c.owners.length n1, .slice a2 c.chans.length n2, .slice a3 c.tasks.length n3] 27)) ((hb_w2.block _ byS).trans byH) (fun c_w2 => ?_); obtain ⟨cc_w2, fc_w2, zc_w2⟩ := blk c_w2; refine have_then (P := Below w.heap.size w w2) byB (fun h_w2 => ?_); have s_w2 := Below.size h_w2; have t_w2 := Below.size hb_w2; (try simp at t_w2); revert hb_w2; intro hb_w2; clear c_w1 cc_w1 fc_w1)
  go_wp2_with fail
  (go_at_call 12; refine (H3.out _ byB).mono ?_; rintro e w3 ⟨rfl, hb_w3⟩; refine have_then (P := w3.heap[w.heap.size]? = some (.cells #[.int .i64 c.sets, .int .i64 c.ways, .int .i64 c.doms, .int .i64 c.pad, .int .i64 c.quantum, .slice (some ⟨bs, os, none⟩) c.slots.length n0, .slice a1 c.owners.length n1, .slice a2 c.chans.length n2, .slice a3 c.tasks.length n3] 27)) ((hb_w3.block _ byS).trans byH) (fun c_w3 => ?_); obtain ⟨cc_w3, fc_w3, zc_w3⟩ := blk c_w3; refine have_then (P := Below w.heap.size w w3) byB (fun h_w3 => ?_); have s_w3 := Below.size h_w3; have t_w3 := Below.size hb_w3; (try simp at t_w3); revert hb_w3; intro hb_w3; clear c_w2 cc_w2 fc_w2)
  go_wp2_with fail
  (go_at_call 13; refine (H5.out _ byB).mono ?_; rintro e w4 ⟨rfl, hb_w4⟩; refine have_then (P := w4.heap[w.heap.size]? = some (.cells #[.int .i64 c.sets, .int .i64 c.ways, .int .i64 c.doms, .int .i64 c.pad, .int .i64 c.quantum, .slice (some ⟨bs, os, none⟩) c.slots.length n0, .slice a1 c.owners.length n1, .slice a2 c.chans.length n2, .slice a3 c.tasks.length n3] 27)) ((hb_w4.block _ byS).trans byH) (fun c_w4 => ?_); obtain ⟨cc_w4, fc_w4, zc_w4⟩ := blk c_w4; refine have_then (P := Below w.heap.size w w4) byB (fun h_w4 => ?_); have s_w4 := Below.size h_w4; have t_w4 := Below.size hb_w4; (try simp at t_w4); revert hb_w4; intro hb_w4; clear c_w3 cc_w3 fc_w3)
  go_wp2_with fail
  (go_at_call 14; refine (H6.out _ byB).mono ?_; rintro e w5 ⟨rfl, hb_w5⟩; refine have_then (P := w5.heap[w.heap.size]? = some (.cells #[.int .i64 c.sets, .int .i64 c.ways, .int .i64 c.doms, .int .i64 c.pad, .int .i64 c.quantum, .slice (some ⟨bs, os, none⟩) c.slots.length n0, .slice a1 c.owners.length n1, .slice a2 c.chans.length n2, .slice a3 c.tasks.length n3] 27)) ((hb_w5.block _ byS).trans byH) (fun c_w5 => ?_); obtain ⟨cc_w5, fc_w5, zc_w5⟩ := blk c_w5; refine have_then (P := Below w.heap.size w w5) byB (fun h_w5 => ?_); have s_w5 := Below.size h_w5; have t_w5 := Below.size hb_w5; (try simp at t_w5); revert hb_w5; intro hb_w5; clear c_w4 cc_w4 fc_w4)
  go_wp2_with fail
  (go_at_call 15; refine (H4.out _).mono ?_; rintro e w6 ⟨rfl, hb_w6⟩; refine have_then (P := w6.heap[w.heap.size]? = some (.cells #[.int .i64 c.sets, .int .i64 c.ways, .int .i64 c.doms, .int .i64 c.pad, .int .i64 c.quantum, .slice (some ⟨bs, os, none⟩) c.slots.length n0, .slice a1 c.owners.length n1, .slice a2 c.chans.length n2, .slice a3 c.tasks.length n3] 27)) ((hb_w6.block _ byS).trans byH) (fun c_w6 => ?_); obtain ⟨cc_w6, fc_w6, zc_w6⟩ := blk c_w6; refine have_then (P := Below w.heap.size w w6) byB (fun h_w6 => ?_); have s_w6 := Below.size h_w6; have t_w6 := Below.size hb_w6; (try simp at t_w6); revert hb_w6; intro hb_w6; clear c_w5 cc_w5 fc_w5)
  go_wp2_with fail
  go_region_held3 (fun w' => (∀ oo, w'.cell? ⟨w.heap.size, oo, none⟩ = #[.int .i64 c.sets, .int .i64 c.ways, .int .i64 c.doms, .int .i64 c.pad, .int .i64 c.quantum, .slice (some ⟨bs, os, none⟩) c.slots.length n0, .slice a1 c.owners.length n1, .slice a2 c.chans.length n2, .slice a3 c.tasks.length n3][oo]?)) (((try dsimp only); (repeat' apply And.intro) <;> (first | exact fun oo => (Below.cell (B := w6.heap.size) (w := w6) byB (by first | assumption | omega)).trans (cc_w6 oo) | exact (Below.cell (B := w6.heap.size) (w := w6) byB (by first | assumption | omega)).trans (by assumption) | go_keep | (simp [go_sem, *]; done))))
    (first | (go_at_call 11; refine (H7.out _ byB).mono ?_; rintro e w7 ⟨rfl, hb_w7⟩; refine have_then (P := w7.heap[w.heap.size]? = some (.cells #[.int .i64 c.sets, .int .i64 c.ways, .int .i64 c.doms, .int .i64 c.pad, .int .i64 c.quantum, .slice (some ⟨bs, os, none⟩) c.slots.length n0, .slice a1 c.owners.length n1, .slice a2 c.chans.length n2, .slice a3 c.tasks.length n3] 27)) ((hb_w7.block _ byS).trans byH) (fun c_w7 => ?_); obtain ⟨cc_w7, fc_w7, zc_w7⟩ := blk c_w7; refine have_then (P := Below w.heap.size w w7) byB (fun h_w7 => ?_); have s_w7 := Below.size h_w7; have t_w7 := Below.size hb_w7; (try simp at t_w7); revert hb_w7; intro hb_w7; clear c_w6 cc_w6 fc_w6))
  all_goals
    have k7 := KS.out w7 h_w7
    go_wp2_with fail
    go_ret
    exact ⟨rfl, byB⟩
theorem lawTurnStarts (c : TCfg) (S : TCfgS) (r s : Int) (B : Nat) (w : World) (hB : B ≤ w.heap.size) (hs : TCfg.At (Low B) w c S) :
    Calls Try.prog 3 #[.agg #[.int .i64 c.sets, .int .i64 c.ways, .int .i64 c.doms, .int .i64 c.pad, .int .i64 c.quantum, .slice S.a0 c.slots.length S.n0, .slice S.a1 c.owners.length S.n1, .slice S.a2 c.chans.length S.n2, .slice S.a3 c.tasks.length S.n3], .int .i64 r, .int .i64 s] w fun en w' => en = .returned (.bool true) ∧ Below w.heap.size w w' := by
  by_cases e1 : checkConfig c = 0
  · have n6 := (checkConfig_ok e1).nslots
    by_cases e2 : r < 0
    · exact lawTurnStarts_b c S r s B w hB hs e1 e2
    · by_cases e3 : 8 < r
      · exact lawTurnStarts_c c S r s B w hB hs e1 (by omega) e3
      · by_cases e4 : s < 0
        · exact lawTurnStarts_d c S r s B w hB hs e1 (by omega) (by omega) e4
        · by_cases e5 : (c.slots.length : Int) ≤ s
          · exact lawTurnStarts_e c S r s B w hB hs e1 (by omega) (by omega) (by omega) e5
          · by_cases e6 : r = 8
            · exact lawTurnStarts_f c S r s B w hB hs e1 (by omega) (by omega) (by omega) (by omega) e6
            · obtain ⟨sn, rfl⟩ := Int.eq_ofNat_of_zero_le (show 0 ≤ s by omega)
              have hn := start_next (c := c) (r := r) (s := sn) (by omega)
              by_cases e7 : sn + 1 < c.slots.length
              · exact lawTurnStarts_g c S r sn B w hB hs e1 (by omega) (by omega) (by omega) (by omega) 0 (sn + 1) (by rw [show ((sn : Int) + 1) = ((sn + 1 : Nat) : Int) by omega]; exact congrArg Int.ofNat (Nat.div_eq_of_lt e7)) (by rw [show ((sn : Int) + 1) = ((sn + 1 : Nat) : Int) by omega]; exact congrArg Int.ofNat (Nat.mod_eq_of_lt e7)) (by omega) e7 (by rw [Int.toNat_natCast]; simpa using hn.1 e7)
              · have e8 : sn + 1 = c.slots.length := by omega
                exact lawTurnStarts_g c S r sn B w hB hs e1 (by omega) (by omega) (by omega) (by omega) 1 0 (by rw [show ((sn : Int) + 1) = ((sn + 1 : Nat) : Int) by omega, e8]; exact congrArg Int.ofNat (Nat.div_self (by omega))) (by rw [show ((sn : Int) + 1) = ((sn + 1 : Nat) : Int) by omega, e8]; exact congrArg Int.ofNat (Nat.mod_self _)) (by omega) (by omega) (by rw [Int.toNat_natCast]; simpa using hn.2 e8)
  · exact lawTurnStarts_a c S r s B w hB hs e1
end Go.Proofs.Ytinlmkhlgclbfab
