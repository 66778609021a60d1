/- RdNew TurnB -/
import Derived.Test.YtinlmkhlgclbfabTsA13
import Derived.Test.YtinlmkhlgclbfabTsA19
import Derived.Test.YtinlmkhlgclbfabTsA21
import Derived.Test.YtinlmkhlgclbfabTsA28
section
namespace Go.Proofs.Ytinlmkhlgclbfab
open Go.RowKit
set_option maxRecDepth 100000
set_option maxHeartbeats 4000000

def noDom : TDom := ⟨[], [], 0, [], [], [], []⟩
def noDomS : TDomS := ⟨none, 0, none, 0, none, 0, none, 0, none, 0, none, 0⟩
def newErr (c : TCfg) (dom : Int) : Int := if checkConfig c ≠ 0 then checkConfig c else if isDom c.doms dom then 0 else 5
def newOf (c : TCfg) (dom : Int) : TDom := if newErr c dom = 0 then freshOf c else noDom
theorem noDom_own (w : World) : DomO (fun _ _ => False) w noDom noDomS :=
  ⟨OZl.nil _ _ _ _, OZl.nil _ _ _ _, OZl.nil _ _ _ _, OZl.nil _ _ _ _, OZl.nil _ _ _ _, OZl.nil _ _ _ _, fun _ _ _ _ h => h.elim, fun _ _ h => h.elim⟩
/-- a domain and a verdict were returned; what the domain reaches is its own and new -/
def RetDomE (d : TDom) (err : Int) (w : World) (e : Ending) (w' : World) : Prop := ∃ T G, e = .returned (.tuple #[.agg #[.slice T.a0 d.jobs.length T.n0, .slice T.a1 d.released.length T.n1, .int .i64 d.next, .slice T.a2 d.ins.length T.n2, .slice T.a3 d.taken.length T.n3, .slice T.a4 d.outs.length T.n4, .slice T.a5 d.events.length T.n5], .int .i64 err]) ∧ DomO G w' d T ∧ (∀ i b, G i b → w.heap.size ≤ b) ∧ Below w.heap.size w w'

theorem readyNew (c : TCfg) (S : TCfgS) (dom : Int) (B : Nat) (w : World) (hB : B ≤ w.heap.size) (hs : TCfg.At (Low B) w c S) :
    Calls Try.prog 50 #[.agg #[.int .i64 c.sets, .int .i64 c.ways, .int .i64 c.doms, .int .i64 c.pad, .int .i64 c.quantum, .slice S.a0 c.slots.length S.n0, .slice S.a1 c.owners.length S.n1, .slice S.a2 c.chans.length S.n2, .slice S.a3 c.tasks.length S.n3], .int .i64 dom] w (RetDomE (newOf c dom) (newErr c dom) w) := by
  have H1 := Lib.hid (fun W (h : Below w.heap.size w W) => configCheck c S B W (Nat.le_trans hB h.size) (hs.next hB h))
  by_cases e1 : checkConfig c = 0
  · have ok := checkConfig_ok e1
    have H2 := Lib.hid (fun W => configIsDomain c S dom ok.doms.1 ok.doms.2 W)
    have H3 := Lib.hid (fun W => readyFresh c S ok W)
    clear ok
    generalize e2 : isDom c.doms dom = b2 at *
    cases b2
    · go_enter Try.func50, Try.ntmps50
      go_wp2_with (first | (go_at_call 45; refine (H1.out _ byB).mono ?_; rintro e w2 ⟨rfl, hb2⟩; have s2 := hb2.size; (try simp at s2); have hbx : w2.heap[w.heap.size]? = some (.cells #[.int .i64 c.sets, .int .i64 c.ways, .int .i64 c.doms, .int .i64 c.pad, .int .i64 c.quantum, .slice S.a0 c.slots.length S.n0, .slice S.a1 c.owners.length S.n1, .slice S.a2 c.chans.length S.n2, .slice S.a3 c.tasks.length S.n3] 27) := (hb2.block _ (by simp; omega)).trans (by exact byH); have hby : w2.heap[w.heap.size + 1]? = some (.cells #[.slice none 0 0, .slice none 0 0, .int .i64 0, .slice none 0 0, .slice none 0 0, .slice none 0 0, .slice none 0 0] 45) := (hb2.block _ (by simp)).trans (by exact byH); obtain ⟨cx, fx, zx⟩ := blk hbx; obtain ⟨cy, fy, zy⟩ := blk hby; have hbw2 : Below w.heap.size w w2 := byB; rw [e1]) | (go_at_call 91; refine (H2.out _).mono ?_; rintro e w3 ⟨rfl, hb3⟩; have s3 := hb3.size; (try simp at s3); have hbx3 : w3.heap[w.heap.size]? = some (.cells #[.int .i64 c.sets, .int .i64 c.ways, .int .i64 c.doms, .int .i64 c.pad, .int .i64 c.quantum, .slice S.a0 c.slots.length S.n0, .slice S.a1 c.owners.length S.n1, .slice S.a2 c.chans.length S.n2, .slice S.a3 c.tasks.length S.n3] 27) := (hb3.block _ (by first | exact zx | simpa using zx)).trans hbx; obtain ⟨cx3, fx3, zx3⟩ := blk hbx3; have hby3 : w3.heap[w.heap.size + 1]? = some (.cells #[.slice none 0 0, .slice none 0 0, .int .i64 0, .slice none 0 0, .slice none 0 0, .slice none 0 0, .slice none 0 0] 45) := (hb3.block _ (by first | exact zy | simpa using zy)).trans hby; obtain ⟨cy3, fy3, zy3⟩ := blk hby3; have hbw3 : Below w.heap.size w w3 := byB))
      obtain ⟨cr, fr, zr⟩ := blk (dom_set (u0 := .slice none 0 0) (u1 := .slice none 0 0) (u2 := .int .i64 0) (u3 := .slice none 0 0) (u4 := .slice none 0 0) (u5 := .slice none 0 0) (u6 := .slice none 0 0) hby3)
      refine bodyPost_ret (v := .tuple #[.agg #[.slice none 0 0, .slice none 0 0, .int .i64 0, .slice none 0 0, .slice none 0 0, .slice none 0 0, .slice none 0 0], .int .i64 5]) (by simp [results, Try.results50, go_sem, *]) rfl ?_
      rw [show newErr c dom = 5 from by simp [newErr, e1, e2]]
      rw [show newOf c dom = noDom from by unfold newOf; rw [show newErr c dom = 5 from by simp [newErr, e1, e2]]; exact if_neg (by first | decide | assumption)]
      exact ⟨noDomS, fun _ _ => False, rfl, noDom_own _, fun _ _ h => h.elim, dom_below hbw3 (by omega)⟩
    · go_enter Try.func50, Try.ntmps50
      go_wp2_with (first | (go_at_call 45; refine (H1.out _ byB).mono ?_; rintro e w2 ⟨rfl, hb2⟩; have s2 := hb2.size; (try simp at s2); have hbx : w2.heap[w.heap.size]? = some (.cells #[.int .i64 c.sets, .int .i64 c.ways, .int .i64 c.doms, .int .i64 c.pad, .int .i64 c.quantum, .slice S.a0 c.slots.length S.n0, .slice S.a1 c.owners.length S.n1, .slice S.a2 c.chans.length S.n2, .slice S.a3 c.tasks.length S.n3] 27) := (hb2.block _ (by simp; omega)).trans (by exact byH); have hby : w2.heap[w.heap.size + 1]? = some (.cells #[.slice none 0 0, .slice none 0 0, .int .i64 0, .slice none 0 0, .slice none 0 0, .slice none 0 0, .slice none 0 0] 45) := (hb2.block _ (by simp)).trans (by exact byH); obtain ⟨cx, fx, zx⟩ := blk hbx; obtain ⟨cy, fy, zy⟩ := blk hby; have hbw2 : Below w.heap.size w w2 := byB; rw [e1]) | (go_at_call 91; refine (H2.out _).mono ?_; rintro e w3 ⟨rfl, hb3⟩; have s3 := hb3.size; (try simp at s3); have hbx3 : w3.heap[w.heap.size]? = some (.cells #[.int .i64 c.sets, .int .i64 c.ways, .int .i64 c.doms, .int .i64 c.pad, .int .i64 c.quantum, .slice S.a0 c.slots.length S.n0, .slice S.a1 c.owners.length S.n1, .slice S.a2 c.chans.length S.n2, .slice S.a3 c.tasks.length S.n3] 27) := (hb3.block _ (by first | exact zx | simpa using zx)).trans hbx; obtain ⟨cx3, fx3, zx3⟩ := blk hbx3; have hby3 : w3.heap[w.heap.size + 1]? = some (.cells #[.slice none 0 0, .slice none 0 0, .int .i64 0, .slice none 0 0, .slice none 0 0, .slice none 0 0, .slice none 0 0] 45) := (hb3.block _ (by first | exact zy | simpa using zy)).trans hby; obtain ⟨cy3, fy3, zy3⟩ := blk hby3; have hbw3 : Below w.heap.size w w3 := byB) | (go_at_call 92; refine (H3.out _).mono ?_; rintro e w4 ⟨T4, G4, rfl, hO4, hG4, hb4⟩; have s4 := hb4.size; (try simp at s4); have hby4 : w4.heap[w.heap.size + 1]? = some (.cells #[.slice none 0 0, .slice none 0 0, .int .i64 0, .slice none 0 0, .slice none 0 0, .slice none 0 0, .slice none 0 0] 45) := (hb4.block _ (by first | exact zy3 | simpa using zy3)).trans hby3; obtain ⟨cy4, fy4, zy4⟩ := blk hby4; have hbw4 : Below w.heap.size w w4 := byB))
      obtain ⟨cr, fr, zr⟩ := blk (dom_set (u0 := .slice T4.a0 (freshOf c).jobs.length T4.n0) (u1 := .slice T4.a1 (freshOf c).released.length T4.n1) (u2 := .int .i64 (freshOf c).next) (u3 := .slice T4.a2 (freshOf c).ins.length T4.n2) (u4 := .slice T4.a3 (freshOf c).taken.length T4.n3) (u5 := .slice T4.a4 (freshOf c).outs.length T4.n4) (u6 := .slice T4.a5 (freshOf c).events.length T4.n5) hby4)
      refine bodyPost_ret (v := .tuple #[.agg #[.slice T4.a0 (freshOf c).jobs.length T4.n0, .slice T4.a1 (freshOf c).released.length T4.n1, .int .i64 (freshOf c).next, .slice T4.a2 (freshOf c).ins.length T4.n2, .slice T4.a3 (freshOf c).taken.length T4.n3, .slice T4.a4 (freshOf c).outs.length T4.n4, .slice T4.a5 (freshOf c).events.length T4.n5], .int .i64 0]) (by simp [results, Try.results50, go_sem, *]) rfl ?_
      rw [show newErr c dom = 0 from by simp [newErr, e1, e2]]
      rw [show newOf c dom = freshOf c from by unfold newOf; exact if_pos (by simp [newErr, e1, e2])]
      exact ⟨T4, G4, rfl, hO4.keep (fun i b hb => dom_far (by have := hG4 i b hb; omega)) (by simp), fun i b hb => by have := hG4 i b hb; omega, dom_below hbw4 (by omega)⟩
  · go_enter Try.func50, Try.ntmps50
    go_wp2_with (go_at_call 45; refine (H1.out _ byB).mono ?_; rintro e w2 ⟨rfl, hb2⟩; have s2 := hb2.size; (try simp at s2); have hbx : w2.heap[w.heap.size]? = some (.cells #[.int .i64 c.sets, .int .i64 c.ways, .int .i64 c.doms, .int .i64 c.pad, .int .i64 c.quantum, .slice S.a0 c.slots.length S.n0, .slice S.a1 c.owners.length S.n1, .slice S.a2 c.chans.length S.n2, .slice S.a3 c.tasks.length S.n3] 27) := (hb2.block _ (by simp; omega)).trans (by exact byH); have hby : w2.heap[w.heap.size + 1]? = some (.cells #[.slice none 0 0, .slice none 0 0, .int .i64 0, .slice none 0 0, .slice none 0 0, .slice none 0 0, .slice none 0 0] 45) := (hb2.block _ (by simp)).trans (by exact byH); obtain ⟨cx, fx, zx⟩ := blk hbx; obtain ⟨cy, fy, zy⟩ := blk hby; have hbw2 : Below w.heap.size w w2 := byB)
    obtain ⟨cr, fr, zr⟩ := blk (dom_set (u0 := .slice none 0 0) (u1 := .slice none 0 0) (u2 := .int .i64 0) (u3 := .slice none 0 0) (u4 := .slice none 0 0) (u5 := .slice none 0 0) (u6 := .slice none 0 0) hby)
    refine bodyPost_ret (v := .tuple #[.agg #[.slice none 0 0, .slice none 0 0, .int .i64 0, .slice none 0 0, .slice none 0 0, .slice none 0 0, .slice none 0 0], .int .i64 (checkConfig c)]) (by simp [results, Try.results50, go_sem, *]) rfl ?_
    rw [show newErr c dom = (checkConfig c) from by simp [newErr, e1]]
    rw [show newOf c dom = noDom from by unfold newOf; rw [show newErr c dom = (checkConfig c) from by simp [newErr, e1]]; exact if_neg (by first | decide | assumption)]
    exact ⟨noDomS, fun _ _ => False, rfl, noDom_own _, fun _ _ h => h.elim, dom_below hbw2 (by omega)⟩
end Go.Proofs.Ytinlmkhlgclbfab
end

section
namespace Go.Proofs.Ytinlmkhlgclbfab
open Go.RowKit
set_option maxRecDepth 100000
set_option maxHeartbeats 8000000

def isSlot (c : TCfg) (s : Int) : Bool := decide (0 ≤ s) && decide (s < c.slots.length)
theorem isSlot_true {c : TCfg} {s : Int} : isSlot c s = true ↔ 0 ≤ s ∧ s < c.slots.length := by simp [isSlot]
theorem isSlot_false {c : TCfg} {s : Int} : isSlot c s = false ↔ ¬ (0 ≤ s ∧ s < c.slots.length) := by rw [← isSlot_true]; simp
def startErr (c : TCfg) (r s : Int) : Int := if checkConfig c ≠ 0 then checkConfig c else if !inB 0 r 8 then 3 else if !isSlot c s then 5 else 0

theorem turnLength (c : TCfg) (S : TCfgS) (B : Nat) (w : World) (hB : B ≤ w.heap.size) (hs : TCfg.At (Low B) w c S) :
    Calls Try.prog 10 #[.agg #[.int .i64 c.sets, .int .i64 c.ways, .int .i64 c.doms, .int .i64 c.pad, .int .i64 c.quantum, .slice S.a0 c.slots.length S.n0, .slice S.a1 c.owners.length S.n1, .slice S.a2 c.chans.length S.n2, .slice S.a3 c.tasks.length S.n3]] w fun e w' => e = .returned (.tuple #[.int .i64 (if checkConfig c = 0 then roundOf c else 0), .int .i64 (checkConfig c)]) ∧ Below w.heap.size w w' := by
  have H1 := Lib.hid (fun W (h : Below w.heap.size w W) => configCheck c S B W (Nat.le_trans hB h.size) (hs.next hB h))
  by_cases e1 : checkConfig c = 0
  · have ok := checkConfig_ok e1
    have n6 := ok.nslots
    have H2 := Lib.hid (fun W (h : Below w.heap.size w W) => turnBegins c S 1 0 ok (by omega) (by omega) B W (Nat.le_trans hB h.size) (hs.next hB h))
    have R := Lib.hid (show startOf c 1 0 = roundOf c by unfold startOf; simp [aheadOf])
    rw [R.out] at H2
    rw [e1] at H1
    simp only [e1, if_true]
    clear e1 ok hs
    go_enter Try.func10, Try.ntmps10
    go_wp2_with fail
    (go_at_call 45; refine (H1.out _ byB).mono ?_; rintro e w1 ⟨rfl, hb_w1⟩; refine have_then (P := w1.heap[w.heap.size]? = some (.cells #[.int .i64 c.sets, .int .i64 c.ways, .int .i64 c.doms, .int .i64 c.pad, .int .i64 c.quantum, .slice S.a0 c.slots.length S.n0, .slice S.a1 c.owners.length S.n1, .slice S.a2 c.chans.length S.n2, .slice S.a3 c.tasks.length S.n3] 27)) ((hb_w1.block _ byS).trans byH) (fun c_w1 => ?_); obtain ⟨cc_w1, fc_w1, zc_w1⟩ := blk c_w1; refine have_then (P := Below w.heap.size w w1) byB (fun h_w1 => ?_); have s_w1 := Below.size h_w1; have t_w1 := Below.size hb_w1; (try simp at t_w1); revert hb_w1; intro hb_w1)
    go_wp2_with fail
    (go_at_call 46; refine (H2.out _ byB).mono ?_; rintro e w2 ⟨rfl, hb_w2⟩; refine have_then (P := w2.heap[w.heap.size]? = some (.cells #[.int .i64 c.sets, .int .i64 c.ways, .int .i64 c.doms, .int .i64 c.pad, .int .i64 c.quantum, .slice S.a0 c.slots.length S.n0, .slice S.a1 c.owners.length S.n1, .slice S.a2 c.chans.length S.n2, .slice S.a3 c.tasks.length S.n3] 27)) ((hb_w2.block _ byS).trans byH) (fun c_w2 => ?_); obtain ⟨cc_w2, fc_w2, zc_w2⟩ := blk c_w2; refine have_then (P := Below w.heap.size w w2) byB (fun h_w2 => ?_); have s_w2 := Below.size h_w2; have t_w2 := Below.size hb_w2; (try simp at t_w2); revert hb_w2; intro hb_w2; clear c_w1 cc_w1 fc_w1)
    go_wp2_with fail
    refine bodyPost_ret (v := .tuple #[.int .i64 (roundOf c), .int .i64 0]) (by simp [results, Try.results10, go_sem, *]) rfl ?_
    exact ⟨rfl, byB⟩
  · have b1 : (checkConfig c != 0) = true := by simp [e1]
    simp only [if_neg e1]
    clear e1 hs
    generalize checkConfig c = CE at *
    go_enter Try.func10, Try.ntmps10
    go_wp2_with fail
    (go_at_call 45; refine (H1.out _ byB).mono ?_; rintro e w1 ⟨rfl, hb_w1⟩; refine have_then (P := w1.heap[w.heap.size]? = some (.cells #[.int .i64 c.sets, .int .i64 c.ways, .int .i64 c.doms, .int .i64 c.pad, .int .i64 c.quantum, .slice S.a0 c.slots.length S.n0, .slice S.a1 c.owners.length S.n1, .slice S.a2 c.chans.length S.n2, .slice S.a3 c.tasks.length S.n3] 27)) ((hb_w1.block _ byS).trans byH) (fun c_w1 => ?_); obtain ⟨cc_w1, fc_w1, zc_w1⟩ := blk c_w1; refine have_then (P := Below w.heap.size w w1) byB (fun h_w1 => ?_); have s_w1 := Below.size h_w1; have t_w1 := Below.size hb_w1; (try simp at t_w1); revert hb_w1; intro hb_w1)
    go_wp2_with fail
    refine bodyPost_ret (v := .tuple #[.int .i64 0, .int .i64 CE]) (by simp [results, Try.results10, go_sem, *]) rfl ?_
    exact ⟨rfl, byB⟩

theorem turnStart (c : TCfg) (S : TCfgS) (r s : Int) (B : Nat) (w : World) (hB : B ≤ w.heap.size) (hs : TCfg.At (Low B) w c S) :
    Calls Try.prog 11 #[.agg #[.int .i64 c.sets, .int .i64 c.ways, .int .i64 c.doms, .int .i64 c.pad, .int .i64 c.quantum, .slice S.a0 c.slots.length S.n0, .slice S.a1 c.owners.length S.n1, .slice S.a2 c.chans.length S.n2, .slice S.a3 c.tasks.length S.n3], .int .i64 r, .int .i64 s] w fun e w' => e = .returned (.tuple #[.int .i64 (if startErr c r s = 0 then startOf c r s else 0), .int .i64 (startErr c r s)]) ∧ Below w.heap.size w w' := by
  have H1 := Lib.hid (fun W (h : Below w.heap.size w W) => configCheck c S B W (Nat.le_trans hB h.size) (hs.next hB h))
  have H3 := Lib.hid (fun W => turnIsSlot c S s W)
  by_cases e1 : checkConfig c = 0
  · have ok := checkConfig_ok e1
    rw [e1] at H1
    by_cases h1 : r < 0
    · have R : startErr c r s = 3 := by unfold startErr; rw [if_neg (by simp [e1]), if_pos (by rw [Bool.not_eq_true', inB_false]; exact .inl h1)]
      rw [R, if_neg (by decide)]
      have b1 : decide (r < 0) = true := by simpa using h1
      clear e1 ok hs H3 R
      go_enter Try.func11, Try.ntmps11
      go_wp2_with fail
      (go_at_call 45; refine (H1.out _ byB).mono ?_; rintro e w1 ⟨rfl, hb_w1⟩; refine have_then (P := w1.heap[w.heap.size]? = some (.cells #[.int .i64 c.sets, .int .i64 c.ways, .int .i64 c.doms, .int .i64 c.pad, .int .i64 c.quantum, .slice S.a0 c.slots.length S.n0, .slice S.a1 c.owners.length S.n1, .slice S.a2 c.chans.length S.n2, .slice S.a3 c.tasks.length S.n3] 27)) ((hb_w1.block _ byS).trans byH) (fun c_w1 => ?_); obtain ⟨cc_w1, fc_w1, zc_w1⟩ := blk c_w1; refine have_then (P := Below w.heap.size w w1) byB (fun h_w1 => ?_); have s_w1 := Below.size h_w1; have t_w1 := Below.size hb_w1; (try simp at t_w1); revert hb_w1; intro hb_w1)
      go_wp2_with fail
      refine bodyPost_ret (v := .tuple #[.int .i64 0, .int .i64 3]) (by simp [results, Try.results11, go_sem, *]) rfl ?_
      exact ⟨rfl, byB⟩
    · by_cases h2 : 8 < r
      · have R : startErr c r s = 3 := by unfold startErr; rw [if_neg (by simp [e1]), if_pos (by rw [Bool.not_eq_true', inB_false]; exact .inr h2)]
        rw [R, if_neg (by decide)]
        have b1 : decide (r < 0) = false := by simpa using h1
        have b2 : decide (r > 8) = true := by simpa using h2
        clear e1 ok hs H3 R
        go_enter Try.func11, Try.ntmps11
        go_wp2_with fail
        (go_at_call 45; refine (H1.out _ byB).mono ?_; rintro e w1 ⟨rfl, hb_w1⟩; refine have_then (P := w1.heap[w.heap.size]? = some (.cells #[.int .i64 c.sets, .int .i64 c.ways, .int .i64 c.doms, .int .i64 c.pad, .int .i64 c.quantum, .slice S.a0 c.slots.length S.n0, .slice S.a1 c.owners.length S.n1, .slice S.a2 c.chans.length S.n2, .slice S.a3 c.tasks.length S.n3] 27)) ((hb_w1.block _ byS).trans byH) (fun c_w1 => ?_); obtain ⟨cc_w1, fc_w1, zc_w1⟩ := blk c_w1; refine have_then (P := Below w.heap.size w w1) byB (fun h_w1 => ?_); have s_w1 := Below.size h_w1; have t_w1 := Below.size hb_w1; (try simp at t_w1); revert hb_w1; intro hb_w1)
        go_wp2_with fail
        refine bodyPost_ret (v := .tuple #[.int .i64 0, .int .i64 3]) (by simp [results, Try.results11, go_sem, *]) rfl ?_
        exact ⟨rfl, byB⟩
      · have hr : inB 0 r 8 = true := inB_true.2 (by omega)
        have b1 : decide (r < 0) = false := by simpa using h1
        have b2 : decide (r > 8) = false := by simpa using h2
        rw [show (decide (0 ≤ s) && decide (s < c.slots.length)) = isSlot c s from rfl] at H3
        cases e2 : isSlot c s
        · have R : startErr c r s = 5 := by unfold startErr; rw [if_neg (by simp [e1]), if_neg (by simp [hr]), if_pos (by simp [e2])]
          rw [R, if_neg (by decide)]
          rw [e2] at H3
          clear e1 ok hs R hr e2
          go_enter Try.func11, Try.ntmps11
          go_wp2_with fail
          (go_at_call 45; refine (H1.out _ byB).mono ?_; rintro e w1 ⟨rfl, hb_w1⟩; refine have_then (P := w1.heap[w.heap.size]? = some (.cells #[.int .i64 c.sets, .int .i64 c.ways, .int .i64 c.doms, .int .i64 c.pad, .int .i64 c.quantum, .slice S.a0 c.slots.length S.n0, .slice S.a1 c.owners.length S.n1, .slice S.a2 c.chans.length S.n2, .slice S.a3 c.tasks.length S.n3] 27)) ((hb_w1.block _ byS).trans byH) (fun c_w1 => ?_); obtain ⟨cc_w1, fc_w1, zc_w1⟩ := blk c_w1; refine have_then (P := Below w.heap.size w w1) byB (fun h_w1 => ?_); have s_w1 := Below.size h_w1; have t_w1 := Below.size hb_w1; (try simp at t_w1); revert hb_w1; intro hb_w1)
          go_wp2_with fail
          (go_at_call 47; refine (H3.out _).mono ?_; rintro e w2 ⟨rfl, hb_w2⟩; refine have_then (P := w2.heap[w.heap.size]? = some (.cells #[.int .i64 c.sets, .int .i64 c.ways, .int .i64 c.doms, .int .i64 c.pad, .int .i64 c.quantum, .slice S.a0 c.slots.length S.n0, .slice S.a1 c.owners.length S.n1, .slice S.a2 c.chans.length S.n2, .slice S.a3 c.tasks.length S.n3] 27)) ((hb_w2.block _ byS).trans byH) (fun c_w2 => ?_); obtain ⟨cc_w2, fc_w2, zc_w2⟩ := blk c_w2; refine have_then (P := Below w.heap.size w w2) byB (fun h_w2 => ?_); have s_w2 := Below.size h_w2; have t_w2 := Below.size hb_w2; (try simp at t_w2); revert hb_w2; intro hb_w2; clear c_w1 cc_w1 fc_w1)
          go_wp2_with fail
          refine bodyPost_ret (v := .tuple #[.int .i64 0, .int .i64 5]) (by simp [results, Try.results11, go_sem, *]) rfl ?_
          exact ⟨rfl, byB⟩
        · have R : startErr c r s = 0 := by unfold startErr; rw [if_neg (by simp [e1]), if_neg (by simp [hr]), if_neg (by simp [e2])]
          rw [R, if_pos rfl]
          rw [e2] at H3
          have H2 := Lib.hid (fun W (h : Below w.heap.size w W) => turnBegins c S r s ok (by omega) (isSlot_true.1 e2) B W (Nat.le_trans hB h.size) (hs.next hB h))
          clear e1 ok hs R hr e2
          generalize startOf c r s = Z at *
          go_enter Try.func11, Try.ntmps11
          go_wp2_with fail
          (go_at_call 45; refine (H1.out _ byB).mono ?_; rintro e w1 ⟨rfl, hb_w1⟩; refine have_then (P := w1.heap[w.heap.size]? = some (.cells #[.int .i64 c.sets, .int .i64 c.ways, .int .i64 c.doms, .int .i64 c.pad, .int .i64 c.quantum, .slice S.a0 c.slots.length S.n0, .slice S.a1 c.owners.length S.n1, .slice S.a2 c.chans.length S.n2, .slice S.a3 c.tasks.length S.n3] 27)) ((hb_w1.block _ byS).trans byH) (fun c_w1 => ?_); obtain ⟨cc_w1, fc_w1, zc_w1⟩ := blk c_w1; refine have_then (P := Below w.heap.size w w1) byB (fun h_w1 => ?_); have s_w1 := Below.size h_w1; have t_w1 := Below.size hb_w1; (try simp at t_w1); revert hb_w1; intro hb_w1)
          go_wp2_with fail
          (go_at_call 47; refine (H3.out _).mono ?_; rintro e w2 ⟨rfl, hb_w2⟩; refine have_then (P := w2.heap[w.heap.size]? = some (.cells #[.int .i64 c.sets, .int .i64 c.ways, .int .i64 c.doms, .int .i64 c.pad, .int .i64 c.quantum, .slice S.a0 c.slots.length S.n0, .slice S.a1 c.owners.length S.n1, .slice S.a2 c.chans.length S.n2, .slice S.a3 c.tasks.length S.n3] 27)) ((hb_w2.block _ byS).trans byH) (fun c_w2 => ?_); obtain ⟨cc_w2, fc_w2, zc_w2⟩ := blk c_w2; refine have_then (P := Below w.heap.size w w2) byB (fun h_w2 => ?_); have s_w2 := Below.size h_w2; have t_w2 := Below.size hb_w2; (try simp at t_w2); revert hb_w2; intro hb_w2; clear c_w1 cc_w1 fc_w1)
          go_wp2_with fail
          (go_at_call 46; refine (H2.out _ byB).mono ?_; rintro e w3 ⟨rfl, hb_w3⟩; refine have_then (P := w3.heap[w.heap.size]? = some (.cells #[.int .i64 c.sets, .int .i64 c.ways, .int .i64 c.doms, .int .i64 c.pad, .int .i64 c.quantum, .slice S.a0 c.slots.length S.n0, .slice S.a1 c.owners.length S.n1, .slice S.a2 c.chans.length S.n2, .slice S.a3 c.tasks.length S.n3] 27)) ((hb_w3.block _ byS).trans byH) (fun c_w3 => ?_); obtain ⟨cc_w3, fc_w3, zc_w3⟩ := blk c_w3; refine have_then (P := Below w.heap.size w w3) byB (fun h_w3 => ?_); have s_w3 := Below.size h_w3; have t_w3 := Below.size hb_w3; (try simp at t_w3); revert hb_w3; intro hb_w3; clear c_w2 cc_w2 fc_w2)
          go_wp2_with fail
          refine bodyPost_ret (v := .tuple #[.int .i64 Z, .int .i64 0]) (by simp [results, Try.results11, go_sem, *]) rfl ?_
          exact ⟨rfl, byB⟩
  · have R : startErr c r s = checkConfig c := by unfold startErr; rw [if_pos e1]
    rw [R, if_neg e1]
    have b1 : (checkConfig c != 0) = true := by simp [e1]
    clear e1 hs H3 R
    generalize checkConfig c = CE at *
    go_enter Try.func11, Try.ntmps11
    go_wp2_with fail
    (go_at_call 45; refine (H1.out _ byB).mono ?_; rintro e w1 ⟨rfl, hb_w1⟩; refine have_then (P := w1.heap[w.heap.size]? = some (.cells #[.int .i64 c.sets, .int .i64 c.ways, .int .i64 c.doms, .int .i64 c.pad, .int .i64 c.quantum, .slice S.a0 c.slots.length S.n0, .slice S.a1 c.owners.length S.n1, .slice S.a2 c.chans.length S.n2, .slice S.a3 c.tasks.length S.n3] 27)) ((hb_w1.block _ byS).trans byH) (fun c_w1 => ?_); obtain ⟨cc_w1, fc_w1, zc_w1⟩ := blk c_w1; refine have_then (P := Below w.heap.size w w1) byB (fun h_w1 => ?_); have s_w1 := Below.size h_w1; have t_w1 := Below.size hb_w1; (try simp at t_w1); revert hb_w1; intro hb_w1)
    go_wp2_with fail
    refine bodyPost_ret (v := .tuple #[.int .i64 0, .int .i64 CE]) (by simp [results, Try.results11, go_sem, *]) rfl ?_
    exact ⟨rfl, byB⟩
end Go.Proofs.Ytinlmkhlgclbfab
end
