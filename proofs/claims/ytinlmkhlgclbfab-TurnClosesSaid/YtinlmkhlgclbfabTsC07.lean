/- CheckE -/
import Derived.Test.YtinlmkhlgclbfabTsC06
namespace Go.Proofs.Ytinlmkhlgclbfab
open Go.RowKit
set_option maxRecDepth 100000
set_option maxHeartbeats 4000000

theorem refCheckBoth (c : TCfg) (S : TCfgS) (dom : Int) (d : TDom) (T : TDomS) (B : Nat) (w : World) (hB : B ≤ w.heap.size) (hs : TCfg.At (Low B) w c S) (hd : TDom.At (Low B) w d T) :
    Calls Try.prog 33 #[.agg #[.int .i64 c.sets, .int .i64 c.ways, .int .i64 c.doms, .int .i64 c.pad, .int .i64 c.quantum, .slice S.a0 c.slots.length S.n0, .slice S.a1 c.owners.length S.n1, .slice S.a2 c.chans.length S.n2, .slice S.a3 c.tasks.length S.n3], .int .i64 dom, .agg #[.slice T.a0 d.jobs.length T.n0, .slice T.a1 d.released.length T.n1, .int .i64 d.next, .slice T.a2 d.ins.length T.n2, .slice T.a3 d.taken.length T.n3, .slice T.a4 d.outs.length T.n4, .slice T.a5 d.events.length T.n5]] w fun e w' => e = .returned (.int .i64 (checkBoth c dom d)) ∧ Below w.heap.size w w' := by
  have H1 := Lib.hid (fun W (h : Below w.heap.size w W) => refCheckConfig c S B W (Nat.le_trans hB h.size) (hs.next hB h))
  cases e1 : decide (checkConfig c = 0)
  · have e1 : checkConfig c ≠ 0 := by simpa using e1
    have R := Lib.hid (show checkBoth c dom d = checkConfig c by unfold checkBoth thenE; rw [if_neg e1])
    have b1 : (checkConfig c == 0) = false := by simp [e1]
    clear hs hd e1
    generalize checkConfig c = CE at *
    go_enter Try.func33, Try.ntmps33
    go_wp2_with (go_at_call 12; refine (H1.out _ byB).mono ?_; rintro e w1 ⟨rfl, hb1⟩)
    go_ret
    exact ⟨ret_int R.out.symm, byB⟩
  have e1 : checkConfig c = 0 := by simpa using e1
  have R := Lib.hid (show checkBoth c dom d = domErr c dom d by unfold checkBoth; rw [e1]; rfl)
  have hc := checkConfig_ok e1
  have H2 := Lib.hid (fun W (h : Below w.heap.size w W) => refCheckDomain c S dom d T hc B W (Nat.le_trans hB h.size) (hs.next hB h) (hd.next hB h))
  rw [e1] at H1
  clear hs hd hc e1
  go_enter Try.func33, Try.ntmps33
  go_wp2_with fail
  (go_at_call 12; refine (H1.out _ byB).mono ?_; rintro e w1 ⟨rfl, hb_w1⟩; refine have_then (P := w1.heap[w.heap.size]? = some (.cells #[.int .i64 c.sets, .int .i64 c.ways, .int .i64 c.doms, .int .i64 c.pad, .int .i64 c.quantum, .slice S.a0 c.slots.length S.n0, .slice S.a1 c.owners.length S.n1, .slice S.a2 c.chans.length S.n2, .slice S.a3 c.tasks.length S.n3] 27)) ((hb_w1.block _ byS).trans byH) (fun c_w1 => ?_); obtain ⟨cc_w1, fc_w1, zc_w1⟩ := blk c_w1; refine have_then (P := w1.heap[w.heap.size + 1]? = some (.cells #[.slice T.a0 d.jobs.length T.n0, .slice T.a1 d.released.length T.n1, .int .i64 d.next, .slice T.a2 d.ins.length T.n2, .slice T.a3 d.taken.length T.n3, .slice T.a4 d.outs.length T.n4, .slice T.a5 d.events.length T.n5] 45)) ((hb_w1.block _ byS).trans byH) (fun d_w1 => ?_); obtain ⟨cd_w1, fd_w1, zd_w1⟩ := blk d_w1; refine have_then (P := Below w.heap.size w w1) byB (fun h_w1 => ?_); have s_w1 := Below.size h_w1; have t_w1 := Below.size hb_w1; (try simp at t_w1); revert hb_w1; intro hb_w1)
  go_wp2_with fail
  (go_at_call 17; refine (H2.out _ byB).mono ?_; rintro e w2 ⟨rfl, hb_w2⟩; refine have_then (P := w2.heap[w.heap.size]? = some (.cells #[.int .i64 c.sets, .int .i64 c.ways, .int .i64 c.doms, .int .i64 c.pad, .int .i64 c.quantum, .slice S.a0 c.slots.length S.n0, .slice S.a1 c.owners.length S.n1, .slice S.a2 c.chans.length S.n2, .slice S.a3 c.tasks.length S.n3] 27)) ((hb_w2.block _ byS).trans byH) (fun c_w2 => ?_); obtain ⟨cc_w2, fc_w2, zc_w2⟩ := blk c_w2; refine have_then (P := w2.heap[w.heap.size + 1]? = some (.cells #[.slice T.a0 d.jobs.length T.n0, .slice T.a1 d.released.length T.n1, .int .i64 d.next, .slice T.a2 d.ins.length T.n2, .slice T.a3 d.taken.length T.n3, .slice T.a4 d.outs.length T.n4, .slice T.a5 d.events.length T.n5] 45)) ((hb_w2.block _ byS).trans byH) (fun d_w2 => ?_); obtain ⟨cd_w2, fd_w2, zd_w2⟩ := blk d_w2; refine have_then (P := Below w.heap.size w w2) byB (fun h_w2 => ?_); have s_w2 := Below.size h_w2; have t_w2 := Below.size hb_w2; (try simp at t_w2); revert hb_w2; intro hb_w2; clear c_w1 cc_w1 fc_w1 d_w1 cd_w1 fd_w1)
  go_wp2_with fail
  go_ret
  exact ⟨ret_int R.out.symm, byB⟩
end Go.Proofs.Ytinlmkhlgclbfab
