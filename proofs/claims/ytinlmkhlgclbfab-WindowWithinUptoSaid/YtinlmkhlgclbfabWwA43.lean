/- RdNew -/
import Derived.Test.YtinlmkhlgclbfabWwA20
import Derived.Test.YtinlmkhlgclbfabWwA22
import Derived.Test.YtinlmkhlgclbfabWwA42
namespace Go.Proofs.Ytinlmkhlgclbfab
open Go.RowKit
set_option maxRecDepth 100000
set_option maxHeartbeats 4000000

def noDom : TDom := ⟨[], [], 0, [], [], [], []⟩
def noDomS : TDomS := ⟨none, 0, none, 0, none, 0, none, 0, none, 0, none, 0⟩
def newErr (c : TCfg) (dom : Int) : Int := if checkConfig c ≠ 0 then checkConfig c else if isDom c.doms dom then 0 else 5
def newOf (c : TCfg) (dom : Int) : TDom := if newErr c dom = 0 then freshOf c else noDom
theorem noDom_own (w : World) : DomO (fun _ _ => False) w noDom noDomS :=
  ⟨OZl.nil _ _ _ _, OZl.nil _ _ _ _, OZl.nil _ _ _ _, OZl.nil _ _ _ _, OZl.nil _ _ _ _, OZl.nil _ _ _ _, fun _ _ _ _ h => h.elim, fun _ _ h => h.elim⟩
/-- a domain and a verdict were returned; what the domain reaches is its own and new -/
def RetDomE (d : TDom) (err : Int) (w : World) (e : Ending) (w' : World) : Prop := ∃ T G, e = .returned (.tuple #[.agg #[.slice T.a0 d.jobs.length T.n0, .slice T.a1 d.released.length T.n1, .int .i64 d.next, .slice T.a2 d.ins.length T.n2, .slice T.a3 d.taken.length T.n3, .slice T.a4 d.outs.length T.n4, .slice T.a5 d.events.length T.n5], .int .i64 err]) ∧ DomO G w' d T ∧ (∀ i b, G i b → w.heap.size ≤ b) ∧ Below w.heap.size w w'

theorem readyNew (c : TCfg) (S : TCfgS) (dom : Int) (B : Nat) (w : World) (hB : B ≤ w.heap.size) (hs : TCfg.At (Low B) w c S) :
    Calls Try.prog 50 #[.agg #[.int .i64 c.sets, .int .i64 c.ways, .int .i64 c.doms, .int .i64 c.pad, .int .i64 c.quantum, .slice S.a0 c.slots.length S.n0, .slice S.a1 c.owners.length S.n1, .slice S.a2 c.chans.length S.n2, .slice S.a3 c.tasks.length S.n3], .int .i64 dom] w (RetDomE (newOf c dom) (newErr c dom) w) := by
  have H1 := Lib.hid (fun W (h : Below w.heap.size w W) => configCheck c S B W (Nat.le_trans hB h.size) (hs.next hB h))
  by_cases e1 : checkConfig c = 0
  · have ok := checkConfig_ok e1
    have H2 := Lib.hid (fun W => configIsDomain c S dom ok.doms.1 ok.doms.2 W)
    have H3 := Lib.hid (fun W => readyFresh c S ok W)
    clear ok
    generalize e2 : isDom c.doms dom = b2 at *
    cases b2
    · go_enter Try.func50, Try.ntmps50
      go_wp2_with (first | (go_at_call 45; refine (H1.out _ byB).mono ?_; rintro e w2 ⟨rfl, hb2⟩; have s2 := hb2.size; (try simp at s2); have hbx : w2.heap[w.heap.size]? = some (.cells #[.int .i64 c.sets, .int .i64 c.ways, .int .i64 c.doms, .int .i64 c.pad, .int .i64 c.quantum, .slice S.a0 c.slots.length S.n0, .slice S.a1 c.owners.length S.n1, .slice S.a2 c.chans.length S.n2, .slice S.a3 c.tasks.length S.n3] 27) := (hb2.block _ (by simp; omega)).trans (by exact byH); have hby : w2.heap[w.heap.size + 1]? = some (.cells #[.slice none 0 0, .slice none 0 0, .int .i64 0, .slice none 0 0, .slice none 0 0, .slice none 0 0, .slice none 0 0] 45) := (hb2.block _ (by simp)).trans (by exact byH); obtain ⟨cx, fx, zx⟩ := blk hbx; obtain ⟨cy, fy, zy⟩ := blk hby; have hbw2 : Below w.heap.size w w2 := byB; rw [e1]) | (go_at_call 91; refine (H2.out _).mono ?_; rintro e w3 ⟨rfl, hb3⟩; have s3 := hb3.size; (try simp at s3); have hbx3 : w3.heap[w.heap.size]? = some (.cells #[.int .i64 c.sets, .int .i64 c.ways, .int .i64 c.doms, .int .i64 c.pad, .int .i64 c.quantum, .slice S.a0 c.slots.length S.n0, .slice S.a1 c.owners.length S.n1, .slice S.a2 c.chans.length S.n2, .slice S.a3 c.tasks.length S.n3] 27) := (hb3.block _ (by first | exact zx | simpa using zx)).trans hbx; obtain ⟨cx3, fx3, zx3⟩ := blk hbx3; have hby3 : w3.heap[w.heap.size + 1]? = some (.cells #[.slice none 0 0, .slice none 0 0, .int .i64 0, .slice none 0 0, .slice none 0 0, .slice none 0 0, .slice none 0 0] 45) := (hb3.block _ (by first | exact zy | simpa using zy)).trans hby; obtain ⟨cy3, fy3, zy3⟩ := blk hby3; have hbw3 : Below w.heap.size w w3 := byB))
      obtain ⟨cr, fr, zr⟩ := blk (dom_set (u0 := .slice none 0 0) (u1 := .slice none 0 0) (u2 := .int .i64 0) (u3 := .slice none 0 0) (u4 := .slice none 0 0) (u5 := .slice none 0 0) (u6 := .slice none 0 0) hby3)
      refine bodyPost_ret (v := .tuple #[.agg #[.slice none 0 0, .slice none 0 0, .int .i64 0, .slice none 0 0, .slice none 0 0, .slice none 0 0, .slice none 0 0], .int .i64 5]) (by simp [results, Try.results50, go_sem, *]) rfl ?_
      rw [show newErr c dom = 5 from by simp [newErr, e1, e2]]
      rw [show newOf c dom = noDom from by unfold newOf; rw [show newErr c dom = 5 from by simp [newErr, e1, e2]]; exact if_neg (by first | decide | assumption)]
      exact ⟨noDomS, fun _ _ => False, rfl, noDom_own _, fun _ _ h => h.elim, dom_below hbw3 (by omega)⟩
    · go_enter Try.func50, Try.ntmps50
      go_wp2_with (first | (go_at_call 45; refine (H1.out _ byB).mono ?_; rintro e w2 ⟨rfl, hb2⟩; have s2 := hb2.size; (try simp at s2); have hbx : w2.heap[w.heap.size]? = some (.cells #[.int .i64 c.sets, .int .i64 c.ways, .int .i64 c.doms, .int .i64 c.pad, .int .i64 c.quantum, .slice S.a0 c.slots.length S.n0, .slice S.a1 c.owners.length S.n1, .slice S.a2 c.chans.length S.n2, .slice S.a3 c.tasks.length S.n3] 27) := (hb2.block _ (by simp; omega)).trans (by exact byH); have hby : w2.heap[w.heap.size + 1]? = some (.cells #[.slice none 0 0, .slice none 0 0, .int .i64 0, .slice none 0 0, .slice none 0 0, .slice none 0 0, .slice none 0 0] 45) := (hb2.block _ (by simp)).trans (by exact byH); obtain ⟨cx, fx, zx⟩ := blk hbx; obtain ⟨cy, fy, zy⟩ := blk hby; have hbw2 : Below w.heap.size w w2 := byB; rw [e1]) | (go_at_call 91; refine (H2.out _).mono ?_; rintro e w3 ⟨rfl, hb3⟩; have s3 := hb3.size; (try simp at s3); have hbx3 : w3.heap[w.heap.size]? = some (.cells #[.int .i64 c.sets, .int .i64 c.ways, .int .i64 c.doms, .int .i64 c.pad, .int .i64 c.quantum, .slice S.a0 c.slots.length S.n0, .slice S.a1 c.owners.length S.n1, .slice S.a2 c.chans.length S.n2, .slice S.a3 c.tasks.length S.n3] 27) := (hb3.block _ (by first | exact zx | simpa using zx)).trans hbx; obtain ⟨cx3, fx3, zx3⟩ := blk hbx3; have hby3 : w3.heap[w.heap.size + 1]? = some (.cells #[.slice none 0 0, .slice none 0 0, .int .i64 0, .slice none 0 0, .slice none 0 0, .slice none 0 0, .slice none 0 0] 45) := (hb3.block _ (by first | exact zy | simpa using zy)).trans hby; obtain ⟨cy3, fy3, zy3⟩ := blk hby3; have hbw3 : Below w.heap.size w w3 := byB) | (go_at_call 92; refine (H3.out _).mono ?_; rintro e w4 ⟨T4, G4, rfl, hO4, hG4, hb4⟩; have s4 := hb4.size; (try simp at s4); have hby4 : w4.heap[w.heap.size + 1]? = some (.cells #[.slice none 0 0, .slice none 0 0, .int .i64 0, .slice none 0 0, .slice none 0 0, .slice none 0 0, .slice none 0 0] 45) := (hb4.block _ (by first | exact zy3 | simpa using zy3)).trans hby3; obtain ⟨cy4, fy4, zy4⟩ := blk hby4; have hbw4 : Below w.heap.size w w4 := byB))
      obtain ⟨cr, fr, zr⟩ := blk (dom_set (u0 := .slice T4.a0 (freshOf c).jobs.length T4.n0) (u1 := .slice T4.a1 (freshOf c).released.length T4.n1) (u2 := .int .i64 (freshOf c).next) (u3 := .slice T4.a2 (freshOf c).ins.length T4.n2) (u4 := .slice T4.a3 (freshOf c).taken.length T4.n3) (u5 := .slice T4.a4 (freshOf c).outs.length T4.n4) (u6 := .slice T4.a5 (freshOf c).events.length T4.n5) hby4)
      refine bodyPost_ret (v := .tuple #[.agg #[.slice T4.a0 (freshOf c).jobs.length T4.n0, .slice T4.a1 (freshOf c).released.length T4.n1, .int .i64 (freshOf c).next, .slice T4.a2 (freshOf c).ins.length T4.n2, .slice T4.a3 (freshOf c).taken.length T4.n3, .slice T4.a4 (freshOf c).outs.length T4.n4, .slice T4.a5 (freshOf c).events.length T4.n5], .int .i64 0]) (by simp [results, Try.results50, go_sem, *]) rfl ?_
      rw [show newErr c dom = 0 from by simp [newErr, e1, e2]]
      rw [show newOf c dom = freshOf c from by unfold newOf; exact if_pos (by simp [newErr, e1, e2])]
      exact ⟨T4, G4, rfl, hO4.keep (fun i b hb => dom_far (by have := hG4 i b hb; omega)) (by simp), fun i b hb => by have := hG4 i b hb; omega, dom_below hbw4 (by omega)⟩
  · go_enter Try.func50, Try.ntmps50
    go_wp2_with (go_at_call 45; refine (H1.out _ byB).mono ?_; rintro e w2 ⟨rfl, hb2⟩; have s2 := hb2.size; (try simp at s2); have hbx : w2.heap[w.heap.size]? = some (.cells #[.int .i64 c.sets, .int .i64 c.ways, .int .i64 c.doms, .int .i64 c.pad, .int .i64 c.quantum, .slice S.a0 c.slots.length S.n0, .slice S.a1 c.owners.length S.n1, .slice S.a2 c.chans.length S.n2, .slice S.a3 c.tasks.length S.n3] 27) := (hb2.block _ (by simp; omega)).trans (by exact byH); have hby : w2.heap[w.heap.size + 1]? = some (.cells #[.slice none 0 0, .slice none 0 0, .int .i64 0, .slice none 0 0, .slice none 0 0, .slice none 0 0, .slice none 0 0] 45) := (hb2.block _ (by simp)).trans (by exact byH); obtain ⟨cx, fx, zx⟩ := blk hbx; obtain ⟨cy, fy, zy⟩ := blk hby; have hbw2 : Below w.heap.size w w2 := byB)
    obtain ⟨cr, fr, zr⟩ := blk (dom_set (u0 := .slice none 0 0) (u1 := .slice none 0 0) (u2 := .int .i64 0) (u3 := .slice none 0 0) (u4 := .slice none 0 0) (u5 := .slice none 0 0) (u6 := .slice none 0 0) hby)
    refine bodyPost_ret (v := .tuple #[.agg #[.slice none 0 0, .slice none 0 0, .int .i64 0, .slice none 0 0, .slice none 0 0, .slice none 0 0, .slice none 0 0], .int .i64 (checkConfig c)]) (by simp [results, Try.results50, go_sem, *]) rfl ?_
    rw [show newErr c dom = (checkConfig c) from by simp [newErr, e1]]
    rw [show newOf c dom = noDom from by unfold newOf; rw [show newErr c dom = (checkConfig c) from by simp [newErr, e1]]; exact if_neg (by first | decide | assumption)]
    exact ⟨noDomS, fun _ _ => False, rfl, noDom_own _, fun _ _ h => h.elim, dom_below hbw2 (by omega)⟩
end Go.Proofs.Ytinlmkhlgclbfab
