/- RdKeep -/
import Derived.Test.YtinlmkhlgclbfaaRtA27
import Derived.Test.YtinlmkhlgclbfaaRtA28
namespace Go.Proofs.Ytinlmkhlgclbfaa
open Go.RowKit
set_option maxRecDepth 100000
set_option maxHeartbeats 4000000

/-- a verdict, or a keeper of a copy of the domain -/
def RetKeep (c : TCfg) (S : TCfgS) (dom : Int) (d : TDom) (B : Nat) (w : World) (e : Ending) (w' : World) : Prop :=
  (checkBoth c dom d ≠ 0 ∧ e = .returned (.tuple #[.pointer none, .int .i64 (checkBoth c dom d)]) ∧ Below w.heap.size w w') ∨
  (∃ gk G T, checkBoth c dom d = 0 ∧ e = .returned (.tuple #[.pointer (some ⟨gk, 0, none⟩), .int .i64 0]) ∧ Kp gk G B w' c S dom d T ∧ w.heap.size ≤ gk ∧ (∀ i b, G i b → w.heap.size ≤ b) ∧ Below w.heap.size w w')

theorem readyKeeper (c : TCfg) (S : TCfgS) (dom : Int) (d : TDom) (T : TDomS) (hz : DomSz d) (B : Nat) (w : World) (hB : B ≤ w.heap.size) (hs : TCfg.At (Low B) w c S) (hd : TDom.At (Low B) w d T) :
    Calls Try.prog 95 #[.agg #[.int .i64 c.sets, .int .i64 c.ways, .int .i64 c.doms, .int .i64 c.pad, .int .i64 c.quantum, .slice S.a0 c.slots.length S.n0, .slice S.a1 c.owners.length S.n1, .slice S.a2 c.chans.length S.n2, .slice S.a3 c.tasks.length S.n3], .int .i64 dom, .agg #[.slice T.a0 d.jobs.length T.n0, .slice T.a1 d.released.length T.n1, .int .i64 d.next, .slice T.a2 d.ins.length T.n2, .slice T.a3 d.taken.length T.n3, .slice T.a4 d.outs.length T.n4, .slice T.a5 d.events.length T.n5]] w (RetKeep c S dom d B w) := by
  have H1 := Lib.hid (fun W (h : Below w.heap.size w W) => readyCheck c S dom d T B W (Nat.le_trans hB h.size) (hs.next hB h) (hd.next hB h))
  by_cases e1 : checkBoth c dom d = 0
  · go_enter Try.func95, Try.ntmps95
    go_wp2_with (go_at_call 60; refine (H1.out _ byB).mono ?_; rintro e w2 ⟨rfl, hb2⟩; have s2 := hb2.size; (try simp at s2); have hbx : w2.heap[w.heap.size]? = some (.cells #[.int .i64 c.sets, .int .i64 c.ways, .int .i64 c.doms, .int .i64 c.pad, .int .i64 c.quantum, .slice S.a0 c.slots.length S.n0, .slice S.a1 c.owners.length S.n1, .slice S.a2 c.chans.length S.n2, .slice S.a3 c.tasks.length S.n3] 63) := (hb2.block _ (by simp; omega)).trans (by exact byH); have hby : w2.heap[w.heap.size + 1]? = some (.cells #[.slice T.a0 d.jobs.length T.n0, .slice T.a1 d.released.length T.n1, .int .i64 d.next, .slice T.a2 d.ins.length T.n2, .slice T.a3 d.taken.length T.n3, .slice T.a4 d.outs.length T.n4, .slice T.a5 d.events.length T.n5] 90) := (hb2.block _ (by simp)).trans (by exact byH); obtain ⟨cx, fx, zx⟩ := blk hbx; obtain ⟨cy, fy, zy⟩ := blk hby; have hbw2 : Below w.heap.size w w2 := byB; rw [e1])
    refine wp_region_inv [16, 17, 18, 19, 20, 21, 6, 7] (fun l f W => (Below w.heap.size w W ∧ W.heap[w.heap.size]? = some (.cells #[.int .i64 c.sets, .int .i64 c.ways, .int .i64 c.doms, .int .i64 c.pad, .int .i64 c.quantum, .slice S.a0 c.slots.length S.n0, .slice S.a1 c.owners.length S.n1, .slice S.a2 c.chans.length S.n2, .slice S.a3 c.tasks.length S.n3] 63) ∧ W.heap[w.heap.size + 1]? = some (.cells #[.slice T.a0 d.jobs.length T.n0, .slice T.a1 d.released.length T.n1, .int .i64 d.next, .slice T.a2 d.ins.length T.n2, .slice T.a3 d.taken.length T.n3, .slice T.a4 d.outs.length T.n4, .slice T.a5 d.events.length T.n5] 90) ∧ l.size = 8) ∧ Fa l 0 (f 16 = .agg #[.int .i64 c.sets, .int .i64 c.ways, .int .i64 c.doms, .int .i64 c.pad, .int .i64 c.quantum, .slice S.a0 c.slots.length S.n0, .slice S.a1 c.owners.length S.n1, .slice S.a2 c.chans.length S.n2, .slice S.a3 c.tasks.length S.n3]) ∧ Fa l 1 (f 17 = .int .i64 dom) ∧ Fa l 2 (f 18 = .agg #[.slice T.a0 d.jobs.length T.n0, .slice T.a1 d.released.length T.n1, .int .i64 d.next, .slice T.a2 d.ins.length T.n2, .slice T.a3 d.taken.length T.n3, .slice T.a4 d.outs.length T.n4, .slice T.a5 d.events.length T.n5]) ∧ Fa l 3 (∃ T1 G1, f 19 = .agg #[.slice T1.a0 d.jobs.length T1.n0, .slice T1.a1 d.released.length T1.n1, .int .i64 d.next, .slice T1.a2 d.ins.length T1.n2, .slice T1.a3 d.taken.length T1.n3, .slice T1.a4 d.outs.length T1.n4, .slice T1.a5 d.events.length T1.n5] ∧ DomO G1 W d T1 ∧ (∀ i b, G1 i b → w.heap.size ≤ b)) ∧ Fa l 4 (Lst l 3 ∧ ∃ T1 G1, f 20 = .agg #[.int .i64 c.sets, .int .i64 c.ways, .int .i64 c.doms, .int .i64 c.pad, .int .i64 c.quantum, .slice S.a0 c.slots.length S.n0, .slice S.a1 c.owners.length S.n1, .slice S.a2 c.chans.length S.n2, .slice S.a3 c.tasks.length S.n3, .int .i64 dom, .slice T1.a0 d.jobs.length T1.n0, .slice T1.a1 d.released.length T1.n1, .int .i64 d.next, .slice T1.a2 d.ins.length T1.n2, .slice T1.a3 d.taken.length T1.n3, .slice T1.a4 d.outs.length T1.n4, .slice T1.a5 d.events.length T1.n5] ∧ DomO G1 W d T1 ∧ (∀ i b, G1 i b → w.heap.size ≤ b)) ∧ Fa l 5 ((Lst l 3 ∧ Lst l 4) ∧ ∃ T1 G1 gk, f 21 = .pointer (some ⟨gk, 0, none⟩) ∧ Kp gk G1 B W c S dom d T1 ∧ w.heap.size ≤ gk ∧ (∀ i b, G1 i b → w.heap.size ≤ b)) ∧ Fa l 6 ((Lst l 3 ∧ Lst l 4 ∧ Lst l 5) ∧ f 6 = f 21) ∧ Fa l 7 (f 7 = .int .i64 0)) (by kernel_rfl) (by decide) (by kernel_rfl) (by intro s hs; simp at hs ⊢; omega) ?_ ?_ ?_
    · intro l hz2 hl
      exact ⟨⟨hbw2.drew, hbx, hby, hz2⟩, .no (hl 0), .no (hl 1), .no (hl 2), .no (hl 3), .no (hl 4), .no (hl 5), .no (hl 6), .no (hl 7)⟩
    · refine StepsL.cons 1 [] rfl (by kernel_rfl) rfl (by intro d hd; injection hd with hd; subst hd; decide) (fun l f W hR hn hb K Q2 hK => ?_) ?_
      · obtain ⟨hS, h0, h1, h2, h3, h4, h5, h6, h7⟩ := hR
        replace hb := Lib.hid hb
        refine ⟨?_⟩
        simp only [putF, Act.put, List.setIfInBounds_toArray, List.set_cons_zero, List.set_cons_succ] at hK ⊢
        replace hK := Lib.hid hK
        obtain ⟨cS, fS, zS⟩ := blk hS.2.1
        obtain ⟨cD, fD, zD⟩ := blk hS.2.2.1
        go_simp
        refine hK.out.out _ _ ⟨⟨hS.1, hS.2.1, hS.2.2.1, by simpa using hS.2.2.2⟩, ⟨fun _ => rfl⟩, h1.k, h2.k, h3.k, ⟨fun hl => ⟨(h4.out (hl.back (by decide))).1.fwd, (h4.out (hl.back (by decide))).2⟩⟩, ⟨fun hl => ⟨⟨(h5.out (hl.back (by decide))).1.1.fwd, (h5.out (hl.back (by decide))).1.2.fwd⟩, (h5.out (hl.back (by decide))).2⟩⟩, ⟨fun hl => ⟨⟨(h6.out (hl.back (by decide))).1.1.fwd, (h6.out (hl.back (by decide))).1.2.1.fwd, (h6.out (hl.back (by decide))).1.2.2.fwd⟩, (h6.out (hl.back (by decide))).2⟩⟩, h7.k⟩
      refine StepsL.cons 2 [] rfl (by kernel_rfl) rfl (by intro d hd; injection hd with hd; subst hd; decide) (fun l f W hR hn hb K Q2 hK => ?_) ?_
      · obtain ⟨hS, h0, h1, h2, h3, h4, h5, h6, h7⟩ := hR
        replace hb := Lib.hid hb
        refine ⟨?_⟩
        simp only [putF, Act.put, List.setIfInBounds_toArray, List.set_cons_zero, List.set_cons_succ] at hK ⊢
        replace hK := Lib.hid hK
        go_simp
        refine hK.out.out _ _ ⟨⟨hS.1, hS.2.1, hS.2.2.1, by simpa using hS.2.2.2⟩, h0.k, ⟨fun _ => rfl⟩, h2.k, h3.k, ⟨fun hl => ⟨(h4.out (hl.back (by decide))).1.fwd, (h4.out (hl.back (by decide))).2⟩⟩, ⟨fun hl => ⟨⟨(h5.out (hl.back (by decide))).1.1.fwd, (h5.out (hl.back (by decide))).1.2.fwd⟩, (h5.out (hl.back (by decide))).2⟩⟩, ⟨fun hl => ⟨⟨(h6.out (hl.back (by decide))).1.1.fwd, (h6.out (hl.back (by decide))).1.2.1.fwd, (h6.out (hl.back (by decide))).1.2.2.fwd⟩, (h6.out (hl.back (by decide))).2⟩⟩, h7.k⟩
      refine StepsL.cons 3 [] rfl (by kernel_rfl) rfl (by intro d hd; injection hd with hd; subst hd; decide) (fun l f W hR hn hb K Q2 hK => ?_) ?_
      · obtain ⟨hS, h0, h1, h2, h3, h4, h5, h6, h7⟩ := hR
        replace hb := Lib.hid hb
        refine ⟨?_⟩
        simp only [putF, Act.put, List.setIfInBounds_toArray, List.set_cons_zero, List.set_cons_succ] at hK ⊢
        replace hK := Lib.hid hK
        obtain ⟨cS, fS, zS⟩ := blk hS.2.1
        obtain ⟨cD, fD, zD⟩ := blk hS.2.2.1
        go_simp
        refine hK.out.out _ _ ⟨⟨hS.1, hS.2.1, hS.2.2.1, by simpa using hS.2.2.2⟩, h0.k, h1.k, ⟨fun _ => rfl⟩, h3.k, ⟨fun hl => ⟨(h4.out (hl.back (by decide))).1.fwd, (h4.out (hl.back (by decide))).2⟩⟩, ⟨fun hl => ⟨⟨(h5.out (hl.back (by decide))).1.1.fwd, (h5.out (hl.back (by decide))).1.2.fwd⟩, (h5.out (hl.back (by decide))).2⟩⟩, ⟨fun hl => ⟨⟨(h6.out (hl.back (by decide))).1.1.fwd, (h6.out (hl.back (by decide))).1.2.1.fwd, (h6.out (hl.back (by decide))).1.2.2.fwd⟩, (h6.out (hl.back (by decide))).2⟩⟩, h7.k⟩
      refine StepsL.cons 4 [2] rfl (by kernel_rfl) rfl (by intro d hd; injection hd with hd; subst hd; decide) (fun l f W hR hn hb K Q2 hK => ?_) ?_
      · obtain ⟨hS, h0, h1, h2, h3, h4, h5, h6, h7⟩ := hR
        have q2 := h2.out (hb 2 (by simp))
        replace hb := Lib.hid hb
        refine ⟨?_⟩
        simp only [putF, Act.put, List.setIfInBounds_toArray, List.set_cons_zero, List.set_cons_succ] at hK ⊢
        (try simp only [q2] at hK)
        replace hK := Lib.hid hK
        have HC := readyOwn d T hz B W (Nat.le_trans hB hS.1.size) (hd.next hB hS.1)
        have hsz := hS.1.size
        go_simp
        go_at_call 120
        refine HC.mono ?_
        clear HC
        rintro e w3 ⟨T1, G1, rfl, hO1, hG1, hb1⟩
        try dsimp only
        try simp only [Act.put, List.setIfInBounds_toArray, List.set_cons_zero, List.set_cons_succ]
        refine hK.out.out _ _ ⟨⟨hS.1.trans (hb1.mono hS.1.size), (hb1.block _ (blk hS.2.1).2.2).trans hS.2.1, (hb1.block _ (blk hS.2.2.1).2.2).trans hS.2.2.1, by simpa using hS.2.2.2⟩, h0.k, h1.k, h2.k, ⟨fun _ => ⟨T1, G1, rfl, hO1, fun i b hb => Nat.le_trans hsz (hG1 i b hb)⟩⟩, ⟨fun hl => absurd (h4.out (hl.back (by decide))).1 hn⟩, ⟨fun hl => absurd (h5.out (hl.back (by decide))).1.1 hn⟩, ⟨fun hl => absurd (h6.out (hl.back (by decide))).1.1 hn⟩, h7.k⟩
      refine StepsL.cons 5 [0, 1, 3] rfl (by kernel_rfl) rfl (by intro d hd; injection hd with hd; subst hd; decide) (fun l f W hR hn hb K Q2 hK => ?_) ?_
      · obtain ⟨hS, h0, h1, h2, h3, h4, h5, h6, h7⟩ := hR
        have q0 := h0.out (hb 0 (by simp))
        have q1 := h1.out (hb 1 (by simp))
        have q3 := h3.out (hb 3 (by simp))
        have hb3 := hb 3 (by simp)
        have L3 := hb3
        obtain ⟨T1, G1, e3, hO1, hG1⟩ := q3
        replace hb := Lib.hid hb
        refine ⟨?_⟩
        simp only [putF, Act.put, List.setIfInBounds_toArray, List.set_cons_zero, List.set_cons_succ] at hK ⊢
        (try simp only [q0, q1, e3] at hK)
        replace hK := Lib.hid hK
        go_simp
        refine hK.out.out _ _ ⟨⟨hS.1, hS.2.1, hS.2.2.1, by simpa using hS.2.2.2⟩, h0.k, h1.k, h2.k, h3.k, ⟨fun _ => ⟨L3.fwd, T1, G1, rfl, hO1, hG1⟩⟩, ⟨fun hl => absurd (h5.out (hl.back (by decide))).1.2 hn⟩, ⟨fun hl => ⟨⟨(h6.out (hl.back (by decide))).1.1.fwd, (h6.out (hl.back (by decide))).1.2.1.fwd, (h6.out (hl.back (by decide))).1.2.2.fwd⟩, (h6.out (hl.back (by decide))).2⟩⟩, h7.k⟩
      refine StepsL.cons 6 [4] rfl (by kernel_rfl) rfl (by intro d hd; injection hd with hd; subst hd; decide) (fun l f W hR hn hb K Q2 hK => ?_) ?_
      · obtain ⟨hS, h0, h1, h2, h3, h4, h5, h6, h7⟩ := hR
        have q4 := h4.out (hb 4 (by simp))
        have hb4 := hb 4 (by simp)
        have L4 := hb4
        obtain ⟨L3, T1, G1, e4, hO1, hG1⟩ := q4
        have hsz := hS.1.size
        replace hb := Lib.hid hb
        refine ⟨?_⟩
        simp only [putF, Act.put, List.setIfInBounds_toArray, List.set_cons_zero, List.set_cons_succ] at hK ⊢
        (try simp only [e4] at hK)
        replace hK := Lib.hid hK
        go_simp
        refine hK.out.out _ _ ⟨⟨hS.1.alloc (by omega) _, (heap_alloc_old _ _ (blk hS.2.1).2.2).trans hS.2.1, (heap_alloc_old _ _ (blk hS.2.2.1).2.2).trans hS.2.2.1, by simpa using hS.2.2.2⟩, h0.k, h1.k, h2.k, ⟨fun hl => let ⟨T1, G1, a, b, e⟩ := (h3.out (hl.back (by decide))); ⟨T1, G1, a, b.keep (fun i b2 hb => heap_alloc_old _ _ (b.lt i b2 hb)) (by simp), e⟩⟩, ⟨fun hl => ⟨(h4.out (hl.back (by decide))).1.fwd, let ⟨T1, G1, a, b, e⟩ := (h4.out (hl.back (by decide))).2; ⟨T1, G1, a, b.keep (fun i b2 hb => heap_alloc_old _ _ (b.lt i b2 hb)) (by simp), e⟩⟩⟩, ⟨fun _ => ⟨⟨L3.fwd, L4.fwd⟩, T1, G1, W.heap.size, rfl, ⟨heapAt _ _ _ rfl, (hs.next hB hS.1).keep fun b hb => heap_alloc_old _ _ (by simp only [Low] at hb; omega), hO1.keep (fun i b hb => heap_alloc_old _ _ (hO1.lt i b hb)) (by simp), fun i b hb => ⟨Nat.ne_of_lt (hO1.lt i b hb), Nat.le_trans hB (hG1 i b hb)⟩, Nat.le_trans hB hsz⟩, hsz, hG1⟩⟩, ⟨fun hl => absurd (h6.out (hl.back (by decide))).1.2.2 hn⟩, h7.k⟩
      refine StepsL.cons 7 [5, 3, 0, 1, 2, 3, 4, 5] rfl (by kernel_rfl) rfl (by intro d hd; injection hd with hd; subst hd; decide) (fun l f W hR hn hb K Q2 hK => ?_) ?_
      · obtain ⟨hS, h0, h1, h2, h3, h4, h5, h6, h7⟩ := hR
        have q0 := h0.out (hb 0 (by simp))
        have q1 := h1.out (hb 1 (by simp))
        have q2 := h2.out (hb 2 (by simp))
        have q3 := h3.out (hb 3 (by simp))
        have q4 := h4.out (hb 4 (by simp))
        have q5 := h5.out (hb 5 (by simp))
        have hb5 := hb 5 (by simp)
        have L5 := hb5
        have L3 := q5.1.1
        have L4 := q5.1.2
        obtain ⟨_, T1, G1, gk, e5, _⟩ := q5
        replace hb := Lib.hid hb
        refine ⟨?_⟩
        simp only [putF, Act.put, List.setIfInBounds_toArray, List.set_cons_zero, List.set_cons_succ] at hK ⊢
        (try simp only [q0, q1, q2, e5] at hK)
        replace hK := Lib.hid hK
        go_simp
        refine hK.out.out _ _ ⟨⟨hS.1, hS.2.1, hS.2.2.1, by simpa using hS.2.2.2⟩, h0.k, h1.k, h2.k, h3.k, ⟨fun hl => ⟨(h4.out (hl.back (by decide))).1.fwd, (h4.out (hl.back (by decide))).2⟩⟩, ⟨fun hl => ⟨⟨(h5.out (hl.back (by decide))).1.1.fwd, (h5.out (hl.back (by decide))).1.2.fwd⟩, (h5.out (hl.back (by decide))).2⟩⟩, ⟨fun _ => ⟨⟨L3.fwd, L4.fwd, L5.fwd⟩, by simp [upd, e5]⟩⟩, h7.k⟩
      refine StepsL.cons 8 [6, 0, 1, 2, 3, 4, 5, 6] rfl (by kernel_rfl) rfl (by intro d hd; injection hd with hd; subst hd; decide) (fun l f W hR hn hb K Q2 hK => ?_) ?_
      · obtain ⟨hS, h0, h1, h2, h3, h4, h5, h6, h7⟩ := hR
        have q0 := h0.out (hb 0 (by simp))
        have q1 := h1.out (hb 1 (by simp))
        have q2 := h2.out (hb 2 (by simp))
        have q3 := h3.out (hb 3 (by simp))
        have q4 := h4.out (hb 4 (by simp))
        have q5 := h5.out (hb 5 (by simp))
        have q6 := h6.out (hb 6 (by simp))
        replace q6 := Lib.hid q6
        replace hb := Lib.hid hb
        refine ⟨?_⟩
        simp only [putF, Act.put, List.setIfInBounds_toArray, List.set_cons_zero, List.set_cons_succ] at hK ⊢
        (try simp only [q0, q1, q2] at hK)
        replace hK := Lib.hid hK
        go_simp
        refine hK.out.out _ _ ⟨⟨hS.1, hS.2.1, hS.2.2.1, by simpa using hS.2.2.2⟩, h0.k, h1.k, h2.k, h3.k, ⟨fun hl => ⟨(h4.out (hl.back (by decide))).1.fwd, (h4.out (hl.back (by decide))).2⟩⟩, ⟨fun hl => ⟨⟨(h5.out (hl.back (by decide))).1.1.fwd, (h5.out (hl.back (by decide))).1.2.fwd⟩, (h5.out (hl.back (by decide))).2⟩⟩, ⟨fun hl => ⟨⟨(h6.out (hl.back (by decide))).1.1.fwd, (h6.out (hl.back (by decide))).1.2.1.fwd, (h6.out (hl.back (by decide))).1.2.2.fwd⟩, (h6.out (hl.back (by decide))).2⟩⟩, ⟨fun _ => rfl⟩⟩
      exact StepsL.nil
    · intro l f W hR hall
      obtain ⟨hS, h0, h1, h2, h3, h4, h5, h6, h7⟩ := hR
      have q0 := h0.out (hall 0 (by decide))
      have q1 := h1.out (hall 1 (by decide))
      have q2 := h2.out (hall 2 (by decide))
      have q3 := h3.out (hall 3 (by decide))
      have q4 := h4.out (hall 4 (by decide))
      have q5 := h5.out (hall 5 (by decide))
      have q6 := h6.out (hall 6 (by decide))
      have q7 := h7.out (hall 7 (by decide))
      clear h0 h1 h2 h3 h4 h5 h6 h7
      obtain ⟨_, T1, G1, gk, e5, hK, hgk, hG1⟩ := q5
      have q6 := q6.2
      rw [e5] at q6
      have hB1 := hS.1
      clear hS hall
      simp only [putF, Act.put, List.setIfInBounds_toArray, List.set_cons_zero, List.set_cons_succ]
      simp only [q6, q7]
      go_wp2_with fail
      refine bodyPost_ret (v := .tuple #[.pointer (some ⟨gk, 0, none⟩), .int .i64 0]) (by simp [results, Try.results95, go_sem, *]) rfl ?_
      exact .inr ⟨gk, G1, T1, e1, rfl, hK, hgk, hG1, hB1⟩
  · go_enter Try.func95, Try.ntmps95
    go_wp2_with (go_at_call 60; refine (H1.out _ byB).mono ?_; rintro e w2 ⟨rfl, hb2⟩; have s2 := hb2.size; (try simp at s2); have hbx : w2.heap[w.heap.size]? = some (.cells #[.int .i64 c.sets, .int .i64 c.ways, .int .i64 c.doms, .int .i64 c.pad, .int .i64 c.quantum, .slice S.a0 c.slots.length S.n0, .slice S.a1 c.owners.length S.n1, .slice S.a2 c.chans.length S.n2, .slice S.a3 c.tasks.length S.n3] 63) := (hb2.block _ (by simp; omega)).trans (by exact byH); have hby : w2.heap[w.heap.size + 1]? = some (.cells #[.slice T.a0 d.jobs.length T.n0, .slice T.a1 d.released.length T.n1, .int .i64 d.next, .slice T.a2 d.ins.length T.n2, .slice T.a3 d.taken.length T.n3, .slice T.a4 d.outs.length T.n4, .slice T.a5 d.events.length T.n5] 90) := (hb2.block _ (by simp)).trans (by exact byH); obtain ⟨cx, fx, zx⟩ := blk hbx; obtain ⟨cy, fy, zy⟩ := blk hby; have hbw2 : Below w.heap.size w w2 := byB)
    refine bodyPost_ret (v := .tuple #[.pointer none, .int .i64 (checkBoth c dom d)]) (by simp [results, Try.results95, go_sem, *]) rfl ?_
    exact .inl ⟨e1, rfl, hbw2⟩
end Go.Proofs.Ytinlmkhlgclbfaa
