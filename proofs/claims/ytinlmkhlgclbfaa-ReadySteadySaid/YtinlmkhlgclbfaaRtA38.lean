/- LawRdA -/
import Derived.Test.YtinlmkhlgclbfaaRtA35
import Derived.Test.YtinlmkhlgclbfaaRtA36
import Derived.Test.YtinlmkhlgclbfaaRtA37
namespace Go.Proofs.Ytinlmkhlgclbfaa
open Go.RowKit
set_option maxRecDepth 100000
set_option maxHeartbeats 8000000

theorem lawDomainIs (d : TDom) (S T : TDomS) (err : Int) (hz : err ≠ 0 → d = noDom) (B : Nat) (w : World) (hB : B ≤ w.heap.size) (hs : TDom.At (Low B) w d S) (ht : TDom.At (Low B) w d T) :
    Calls Try.prog 59 #[.agg #[.slice S.a0 d.jobs.length S.n0, .slice S.a1 d.released.length S.n1, .int .i64 d.next, .slice S.a2 d.ins.length S.n2, .slice S.a3 d.taken.length S.n3, .slice S.a4 d.outs.length S.n4, .slice S.a5 d.events.length S.n5], .int .i64 err, .int .i64 err, .agg #[.slice T.a0 d.jobs.length T.n0, .slice T.a1 d.released.length T.n1, .int .i64 d.next, .slice T.a2 d.ins.length T.n2, .slice T.a3 d.taken.length T.n3, .slice T.a4 d.outs.length T.n4, .slice T.a5 d.events.length T.n5]] w fun e w' => e = .returned (.bool true) ∧ Below w.heap.size w w' := by
  by_cases he : err = 0
  · subst he
    have HS := Lib.hid (fun W (h : Below w.heap.size w W) => refSameDomain d S T B W (Nat.le_trans hB h.size) (hs.next hB h) (ht.next hB h))
    go_enter Try.func59, Try.ntmps59
    go_wp2_with (go_at_call 61; refine (HS.out _ byB).mono ?_; rintro e w1 ⟨rfl, hb1⟩)
    go_ret
    exact ⟨rfl, byB⟩
  · have hd := hz he
    subst hd
    have HS := fun W (h : Below w.heap.size w W) => refSameDomain noDom S noDomS B W (Nat.le_trans hB h.size) (hs.next hB h) ((noDom_own W).read fun _ _ h => h.elim)
    have b1 : (err != 0) = true := by simp [he]
    simp only [noDom, noDomS, List.length_nil] at HS ⊢
    replace HS := Lib.hid HS
    clear hz hs ht he
    go_enter Try.func59, Try.ntmps59
    go_wp2_with (go_at_call 61; refine (HS.out _ byB).mono ?_; rintro e w1 ⟨rfl, hb1⟩)
    go_ret
    exact ⟨rfl, byB⟩

def begD0 : TDom := ⟨[], [0], 0, [], [], [], []⟩
def begD1 : TDom := ⟨[⟨0, 0, 0, 0, false, true⟩], [1], 0, [], [], [], [⟨0, 2, 0, 0⟩, ⟨30, 6, 0, 0⟩]⟩
theorem beg_new : newOf oneCfg 0 = begD0 ∧ newErr oneCfg 0 = 0 := by decide +kernel
theorem beg_rel : relOf oneCfg 0 begD0 40 = begD1 ∧ relErr oneCfg 0 begD0 40 = 0 := by decide +kernel
theorem beg_chk : checkBoth oneCfg 0 begD1 = 0 ∧ bestOf oneCfg begD1.jobs = 0 ∧ dueOf oneCfg 0 begD1 = 50 := by decide +kernel
theorem begSz0 : DomSz begD0 := ⟨by decide, by decide, by decide, fun i hi => absurd hi (by simp [begD0]), by decide, by decide, fun i hi => absurd hi (by simp [begD0]), by decide⟩
theorem begSz1 : DomSz begD1 := ⟨by decide, by decide, by decide, fun i hi => absurd hi (by simp [begD1]), by decide, by decide, fun i hi => absurd hi (by simp [begD1]), by decide⟩

theorem tuple2_fst {a b c d : Value} (h : Value.tuple #[a, b] = .tuple #[c, d]) : a = c := by injection h with h; injection h with h; injection h
theorem tuple2_snd {a b c d : Value} (h : Value.tuple #[a, b] = .tuple #[c, d]) : b = d := by injection h with h; injection h with h; injection h with _ h; injection h
theorem lawReadyBegun (w : World) : Calls Try.prog 58 #[] w fun en w' => en = .returned (.bool true) ∧ Below w.heap.size w w' := by
  have H0 := Lib.hid lawOne
  have H1 := Lib.hid (fun S W (h : TCfg.At (Low W.heap.size) W oneCfg S) => readyNew oneCfg S 0 W.heap.size W (Nat.le_refl _) h)
  rw [beg_new.1, beg_new.2] at H1
  have H2 := Lib.hid (fun S T W (h : TCfg.At (Low W.heap.size) W oneCfg S) (hd : TDom.At (Low W.heap.size) W begD0 T) => readyRelease oneCfg S 0 begD0 T 40 begSz0 (by decide) W.heap.size W (Nat.le_refl _) h hd)
  rw [beg_rel.1, beg_rel.2] at H2
  have H3 := Lib.hid (fun S T W (h : TCfg.At (Low W.heap.size) W oneCfg S) (hd : TDom.At (Low W.heap.size) W begD1 T) => readyPick oneCfg S 0 begD1 T begSz1 W.heap.size W (Nat.le_refl _) h hd)
  rw [beg_chk.1, beg_chk.2.1] at H3
  have H4 := Lib.hid (fun S T W (h : TCfg.At (Low W.heap.size) W oneCfg S) (hd : TDom.At (Low W.heap.size) W begD1 T) => readyDue oneCfg S 0 begD1 T begSz1 W.heap.size W (Nat.le_refl _) h hd)
  rw [beg_chk.1, beg_chk.2.2] at H4
  have H5 := Lib.hid (fun S T W (h : TCfg.At (Low W.heap.size) W oneCfg S) (hd : TDom.At (Low W.heap.size) W begD1 T) => readyCheck oneCfg S 0 begD1 T W.heap.size W (Nat.le_refl _) h hd)
  rw [beg_chk.1] at H5
  simp only [if_true] at H3 H4
  go_enter Try.func58, Try.ntmps58
  go_wp2_with fail
  (go_at_call 84; refine (H0.out _).mono ?_; rintro e w1 ⟨S1, rfl, hs1, hb_w1⟩; refine have_then (P := Below w.heap.size w w1) byB (fun h_w1 => ?_); have s_w1 := Below.size h_w1; have t_w1 := Below.size hb_w1; (try simp at t_w1); revert hb_w1; intro hb_w1)
  go_wp2_with fail
  (go_at_call 48; refine (H1.out S1 _ ((hs1.keepI byI).rng byS)).mono ?_; rintro e w2 ⟨T2, G2, rfl, hO2, hG2, hb_w2⟩; refine have_then (P := Below w.heap.size w w2) byB (fun h_w2 => ?_); have s_w2 := Below.size h_w2; have t_w2 := Below.size hb_w2; (try simp at t_w2); revert hb_w2; intro hb_w2)
  go_wp2_with fail
  generalize hWa : w2.alloc (.cells #[.slice T2.a0 begD0.jobs.length T2.n0, .slice T2.a1 begD0.released.length T2.n1, .int .i64 begD0.next, .slice T2.a2 begD0.ins.length T2.n2, .slice T2.a3 begD0.taken.length T2.n3, .slice T2.a4 begD0.outs.length T2.n4, .slice T2.a5 begD0.events.length T2.n5] 90) = Wa
  have hba : Wa.heap[w2.heap.size]? = some (.cells #[.slice T2.a0 begD0.jobs.length T2.n0, .slice T2.a1 begD0.released.length T2.n1, .int .i64 begD0.next, .slice T2.a2 begD0.ins.length T2.n2, .slice T2.a3 begD0.taken.length T2.n3, .slice T2.a4 begD0.outs.length T2.n4, .slice T2.a5 begD0.events.length T2.n5] 90) := by rw [← hWa]; exact heapAt _ _ _ rfl
  have hda : TDom.At (Low w2.heap.size) Wa begD0 T2 := by rw [← hWa]; exact (hO2.read fun i b hb => hO2.lt i b hb).keep fun b hb => heap_alloc_old _ _ hb
  have hwa : Below w.heap.size w Wa := by rw [← hWa]; exact byB
  have hsa : w2.heap.size + 1 = Wa.heap.size := by rw [← hWa]; simp
  replace hWa := Lib.hid hWa
  clear hO2 hG2 hs1
  refine wp_region_inv [14, 15, 16, 13, 17, 18, 3] (fun l f W => (Below w2.heap.size Wa W ∧ (¬ Lst l 6 → W.heap[w2.heap.size]? = some (.cells #[.slice T2.a0 begD0.jobs.length T2.n0, .slice T2.a1 begD0.released.length T2.n1, .int .i64 begD0.next, .slice T2.a2 begD0.ins.length T2.n2, .slice T2.a3 begD0.taken.length T2.n3, .slice T2.a4 begD0.outs.length T2.n4, .slice T2.a5 begD0.events.length T2.n5] 90)) ∧ l.size = 8) ∧ Fa l 0 (∃ S, f 14 = .agg #[.int .i64 oneCfg.sets, .int .i64 oneCfg.ways, .int .i64 oneCfg.doms, .int .i64 oneCfg.pad, .int .i64 oneCfg.quantum, .slice S.a0 oneCfg.slots.length S.n0, .slice S.a1 oneCfg.owners.length S.n1, .slice S.a2 oneCfg.chans.length S.n2, .slice S.a3 oneCfg.tasks.length S.n3] ∧ (¬ Lst l 2 → TCfg.At (Low W.heap.size) W oneCfg S)) ∧ Fa l 1 (f 15 = .agg #[.slice T2.a0 begD0.jobs.length T2.n0, .slice T2.a1 begD0.released.length T2.n1, .int .i64 begD0.next, .slice T2.a2 begD0.ins.length T2.n2, .slice T2.a3 begD0.taken.length T2.n3, .slice T2.a4 begD0.outs.length T2.n4, .slice T2.a5 begD0.events.length T2.n5]) ∧ Fa l 2 (∃ (T3 : TDomS) (G3 : Nat → Nat → Prop), f 16 = .tuple #[.agg #[.slice T3.a0 begD1.jobs.length T3.n0, .slice T3.a1 begD1.released.length T3.n1, .int .i64 begD1.next, .slice T3.a2 begD1.ins.length T3.n2, .slice T3.a3 begD1.taken.length T3.n3, .slice T3.a4 begD1.outs.length T3.n4, .slice T3.a5 begD1.events.length T3.n5], .int .i64 0] ∧ DomO G3 W begD1 T3 ∧ ∀ i b, G3 i b → w2.heap.size < b) ∧ Fa l 3 (Lst l 2 ∧ f 13 = f 16) ∧ Fa l 4 (Lst l 2 ∧ ∃ v, f 16 = .tuple #[f 17, v]) ∧ Fa l 5 (Lst l 2 ∧ ∃ v, f 16 = .tuple #[v, f 18]) ∧ Fa l 6 (Lst l 1 ∧ Lst l 4 ∧ ∃ cs, f 17 = .agg cs ∧ W.heap[w2.heap.size]? = some (.cells cs 90)) ∧ Fa l 7 (Lst l 5 ∧ f 3 = f 18)) (by kernel_rfl) (by decide) (by kernel_rfl) (by intro s hs; simp at hs ⊢; omega) ?_ ?_ ?_
  · intro l hz hl
    exact ⟨⟨(Below.refl _ _).drew, fun _ => hba, hz⟩, .no (hl 0), .no (hl 1), .no (hl 2), .no (hl 3), .no (hl 4), .no (hl 5), .no (hl 6), .no (hl 7)⟩
  · refine StepsL.cons 1 [] rfl (by kernel_rfl) rfl (by intro d hd; injection hd with hd; subst hd; decide) (fun l f W hR hn hb K Q2 hK => ?_) ?_
    · obtain ⟨hS, h0, h1, h2, h3, h4, h5, h6, h7⟩ := hR
      replace hb := Lib.hid hb
      refine ⟨?_⟩
      simp only [putF, Act.put, List.setIfInBounds_toArray, List.set_cons_zero, List.set_cons_succ] at hK ⊢
      replace hK := Lib.hid hK
      have HC := H0.out W
      go_simp
      go_at_call 84
      refine HC.mono ?_
      clear HC
      rintro e w3 ⟨S3, rfl, hs3, hb3⟩
      try dsimp only
      try simp only [Act.put, List.setIfInBounds_toArray, List.set_cons_zero, List.set_cons_succ]
      refine hK.out.out _ _ ⟨⟨hS.1.trans (hb3.mono (by have := hS.1.size; omega)), fun h => (hb3.block _ (blk (hS.2.1 fun h2 => h h2.fwd)).2.2).trans (hS.2.1 fun h2 => h h2.fwd), by simpa using hS.2.2⟩, ⟨fun _ => ⟨S3, rfl, fun _ => hs3.rng (Nat.le_refl _)⟩⟩, h1.k, ⟨fun hl => let ⟨T, G, a, b, c⟩ := (h2.out (hl.back (by decide))); ⟨T, G, a, b.keep (fun i b2 h => hb3.block _ (b.lt i b2 h)) hb3.size, c⟩⟩, ⟨fun hl => ⟨(h3.out (hl.back (by decide))).1.fwd, (h3.out (hl.back (by decide))).2⟩⟩, ⟨fun hl => ⟨(h4.out (hl.back (by decide))).1.fwd, (h4.out (hl.back (by decide))).2⟩⟩, ⟨fun hl => ⟨(h5.out (hl.back (by decide))).1.fwd, (h5.out (hl.back (by decide))).2⟩⟩, ⟨fun hl => let ⟨a, b, cs, e, h⟩ := (h6.out (hl.back (by decide))); ⟨a.fwd, b.fwd, cs, e, (hb3.block _ (blk h).2.2).trans h⟩⟩, ⟨fun hl => ⟨(h7.out (hl.back (by decide))).1.fwd, (h7.out (hl.back (by decide))).2⟩⟩⟩
    refine StepsL.cons 2 [] rfl (by kernel_rfl) rfl (by intro d hd; injection hd with hd; subst hd; decide) (fun l f W hR hn hb K Q2 hK => ?_) ?_
    · obtain ⟨hS, h0, h1, h2, h3, h4, h5, h6, h7⟩ := hR
      replace hb := Lib.hid hb
      refine ⟨?_⟩
      simp only [putF, Act.put, List.setIfInBounds_toArray, List.set_cons_zero, List.set_cons_succ] at hK ⊢
      replace hK := Lib.hid hK
      obtain ⟨cX, fX, zX⟩ := blk (hS.2.1 (fun h => hn (h6.out h).1))
      go_simp
      refine hK.out.out _ _ ⟨⟨hS.1, fun h => hS.2.1 (fun h2 => h h2.fwd), by simpa using hS.2.2⟩, ⟨fun hl => let ⟨S, a, b⟩ := (h0.out (hl.back (by decide))); ⟨S, a, fun h => b fun h2 => h h2.fwd⟩⟩, ⟨fun _ => rfl⟩, h2.k, ⟨fun hl => ⟨(h3.out (hl.back (by decide))).1.fwd, (h3.out (hl.back (by decide))).2⟩⟩, ⟨fun hl => ⟨(h4.out (hl.back (by decide))).1.fwd, (h4.out (hl.back (by decide))).2⟩⟩, ⟨fun hl => ⟨(h5.out (hl.back (by decide))).1.fwd, (h5.out (hl.back (by decide))).2⟩⟩, ⟨fun hl => ⟨(h6.out (hl.back (by decide))).1.fwd, (h6.out (hl.back (by decide))).2.1.fwd, (h6.out (hl.back (by decide))).2.2⟩⟩, ⟨fun hl => ⟨(h7.out (hl.back (by decide))).1.fwd, (h7.out (hl.back (by decide))).2⟩⟩⟩
    refine StepsL.cons 3 [0, 1, 0] rfl (by kernel_rfl) rfl (by intro d hd; injection hd with hd; subst hd; decide) (fun l f W hR hn hb K Q2 hK => ?_) ?_
    · obtain ⟨hS, h0, h1, h2, h3, h4, h5, h6, h7⟩ := hR
      have q0 := h0.out (hb 0 (by simp))
      have q1 := h1.out (hb 1 (by simp))
      obtain ⟨S3, e0, hs3⟩ := q0
      have hs3 := hs3 hn
      have hsz := hS.1.size
      have hd3 := (hda.keep fun b hb => hS.1.block b hb).up (B' := W.heap.size) (by omega)
      replace hb := Lib.hid hb
      refine ⟨?_⟩
      simp only [putF, Act.put, List.setIfInBounds_toArray, List.set_cons_zero, List.set_cons_succ] at hK ⊢
      (try simp only [q1, e0] at hK)
      replace hK := Lib.hid hK
      have HC := H2.out S3 T2 W hs3 hd3
      simp only [q1, e0]
      go_simp
      go_at_call 49
      refine HC.mono ?_
      clear HC
      rintro e w3 ⟨T3, G3, rfl, hO3, hG3, hb3⟩
      try dsimp only
      try simp only [Act.put, List.setIfInBounds_toArray, List.set_cons_zero, List.set_cons_succ]
      refine hK.out.out _ _ ⟨⟨hS.1.trans (hb3.mono (by have := hS.1.size; omega)), fun h => (hb3.block _ (blk (hS.2.1 fun h2 => h h2.fwd)).2.2).trans (hS.2.1 fun h2 => h h2.fwd), by simpa using hS.2.2⟩, ⟨fun hl => let ⟨S, a, b⟩ := (h0.out (hl.back (by decide))); ⟨S, a, fun h => absurd (Lst.self (by rw [hS.2.2]; omega)) h⟩⟩, h1.k, ⟨fun _ => ⟨T3, G3, rfl, hO3, fun i b hb => by have := hG3 i b hb; omega⟩⟩, ⟨fun hl => absurd (h3.out (hl.back (by decide))).1 hn⟩, ⟨fun hl => absurd (h4.out (hl.back (by decide))).1 hn⟩, ⟨fun hl => absurd (h5.out (hl.back (by decide))).1 hn⟩, ⟨fun hl => absurd (h4.out (h6.out (hl.back (by decide))).2.1).1 hn⟩, ⟨fun hl => ⟨(h7.out (hl.back (by decide))).1.fwd, (h7.out (hl.back (by decide))).2⟩⟩⟩
    refine StepsL.cons 4 [2] rfl (by kernel_rfl) rfl (by intro d hd; injection hd with hd; subst hd; decide) (fun l f W hR hn hb K Q2 hK => ?_) ?_
    · obtain ⟨hS, h0, h1, h2, h3, h4, h5, h6, h7⟩ := hR
      have q2 := h2.out (hb 2 (by simp))
      have hb2 := hb 2 (by simp)
      have L2 := hb2
      obtain ⟨T3, G3, e2, _⟩ := q2
      replace hb := Lib.hid hb
      refine ⟨?_⟩
      simp only [putF, Act.put, List.setIfInBounds_toArray, List.set_cons_zero, List.set_cons_succ] at hK ⊢
      (try simp only [e2] at hK)
      replace hK := Lib.hid hK
      go_simp
      refine hK.out.out _ _ ⟨⟨hS.1, fun h => hS.2.1 (fun h2 => h h2.fwd), by simpa using hS.2.2⟩, ⟨fun hl => let ⟨S, a, b⟩ := (h0.out (hl.back (by decide))); ⟨S, a, fun h => b fun h2 => h h2.fwd⟩⟩, h1.k, h2.k, ⟨fun _ => ⟨L2.fwd, e2.symm⟩⟩, ⟨fun hl => ⟨(h4.out (hl.back (by decide))).1.fwd, (h4.out (hl.back (by decide))).2⟩⟩, ⟨fun hl => ⟨(h5.out (hl.back (by decide))).1.fwd, (h5.out (hl.back (by decide))).2⟩⟩, ⟨fun hl => ⟨(h6.out (hl.back (by decide))).1.fwd, (h6.out (hl.back (by decide))).2.1.fwd, (h6.out (hl.back (by decide))).2.2⟩⟩, ⟨fun hl => ⟨(h7.out (hl.back (by decide))).1.fwd, (h7.out (hl.back (by decide))).2⟩⟩⟩
    refine StepsL.cons 5 [3] rfl (by kernel_rfl) rfl (by intro d hd; injection hd with hd; subst hd; decide) (fun l f W hR hn hb K Q2 hK => ?_) ?_
    · obtain ⟨hS, h0, h1, h2, h3, h4, h5, h6, h7⟩ := hR
      have q3 := h3.out (hb 3 (by simp))
      obtain ⟨L2, e3⟩ := q3
      obtain ⟨T3, G3, e2, _⟩ := h2.out L2
      rw [e2] at e3
      replace hb := Lib.hid hb
      refine ⟨?_⟩
      simp only [putF, Act.put, List.setIfInBounds_toArray, List.set_cons_zero, List.set_cons_succ] at hK ⊢
      (try simp only [e3, e2] at hK)
      replace hK := Lib.hid hK
      go_simp
      refine hK.out.out _ _ ⟨⟨hS.1, fun h => hS.2.1 (fun h2 => h h2.fwd), by simpa using hS.2.2⟩, ⟨fun hl => let ⟨S, a, b⟩ := (h0.out (hl.back (by decide))); ⟨S, a, fun h => b fun h2 => h h2.fwd⟩⟩, h1.k, h2.k, ⟨fun hl => ⟨(h3.out (hl.back (by decide))).1.fwd, (h3.out (hl.back (by decide))).2⟩⟩, ⟨fun _ => ⟨L2.fwd, _, e2⟩⟩, ⟨fun hl => ⟨(h5.out (hl.back (by decide))).1.fwd, (h5.out (hl.back (by decide))).2⟩⟩, ⟨fun hl => absurd (h6.out (hl.back (by decide))).2.1 hn⟩, ⟨fun hl => ⟨(h7.out (hl.back (by decide))).1.fwd, (h7.out (hl.back (by decide))).2⟩⟩⟩
    refine StepsL.cons 6 [3] rfl (by kernel_rfl) rfl (by intro d hd; injection hd with hd; subst hd; decide) (fun l f W hR hn hb K Q2 hK => ?_) ?_
    · obtain ⟨hS, h0, h1, h2, h3, h4, h5, h6, h7⟩ := hR
      have q3 := h3.out (hb 3 (by simp))
      obtain ⟨L2, e3⟩ := q3
      obtain ⟨T3, G3, e2, _⟩ := h2.out L2
      rw [e2] at e3
      replace hb := Lib.hid hb
      refine ⟨?_⟩
      simp only [putF, Act.put, List.setIfInBounds_toArray, List.set_cons_zero, List.set_cons_succ] at hK ⊢
      (try simp only [e3, e2] at hK)
      replace hK := Lib.hid hK
      go_simp
      refine hK.out.out _ _ ⟨⟨hS.1, fun h => hS.2.1 (fun h2 => h h2.fwd), by simpa using hS.2.2⟩, ⟨fun hl => let ⟨S, a, b⟩ := (h0.out (hl.back (by decide))); ⟨S, a, fun h => b fun h2 => h h2.fwd⟩⟩, h1.k, h2.k, ⟨fun hl => ⟨(h3.out (hl.back (by decide))).1.fwd, (h3.out (hl.back (by decide))).2⟩⟩, ⟨fun hl => ⟨(h4.out (hl.back (by decide))).1.fwd, (h4.out (hl.back (by decide))).2⟩⟩, ⟨fun _ => ⟨L2.fwd, _, e2⟩⟩, ⟨fun hl => ⟨(h6.out (hl.back (by decide))).1.fwd, (h6.out (hl.back (by decide))).2.1.fwd, (h6.out (hl.back (by decide))).2.2⟩⟩, ⟨fun hl => absurd (h7.out (hl.back (by decide))).1 hn⟩⟩
    refine StepsL.cons 7 [4, 2, 0, 1, 2, 3, 4] rfl (by kernel_rfl) rfl (by intro d hd; cases hd) (fun l f W hR hn hb K Q2 hK => ?_) ?_
    · obtain ⟨hS, h0, h1, h2, h3, h4, h5, h6, h7⟩ := hR
      have q0 := h0.out (hb 0 (by simp))
      have q1 := h1.out (hb 1 (by simp))
      have q2 := h2.out (hb 2 (by simp))
      have q3 := h3.out (hb 3 (by simp))
      have q4 := h4.out (hb 4 (by simp))
      have hb1 := hb 1 (by simp)
      have hb4 := hb 4 (by simp)
      obtain ⟨L2, v4, e4⟩ := q4
      obtain ⟨T3, G3, e2, _⟩ := h2.out L2
      have e17 := (tuple2_fst (e2.symm.trans e4)).symm
      have L1 := hb1
      have L4 := hb4
      have hbx := hS.2.1 hn
      clear e2 e4 q3
      replace hb := Lib.hid hb
      refine ⟨?_⟩
      simp only [putF, Act.put, List.setIfInBounds_toArray, List.set_cons_zero, List.set_cons_succ] at hK ⊢
      (try simp only [q1, e17] at hK)
      replace hK := Lib.hid hK
      obtain ⟨cX, fX, zX⟩ := blk hbx
      go_simp
      refine hK.out.out undef _ ⟨⟨dom_below hS.1 (Nat.le_refl _), fun h => absurd (Lst.self (by rw [hS.2.2]; omega)) h, by simpa using hS.2.2⟩, ⟨fun hl => let ⟨S, a, b⟩ := (h0.out (hl.back (by decide))); ⟨S, a, fun h => absurd L2.fwd h⟩⟩, h1.k, ⟨fun hl => let ⟨T, G, a, b, c⟩ := (h2.out (hl.back (by decide))); ⟨T, G, a, b.keep (fun i b2 h => dom_far (by have := c i b2 h; omega)) (by simp), c⟩⟩, ⟨fun hl => ⟨(h3.out (hl.back (by decide))).1.fwd, (h3.out (hl.back (by decide))).2⟩⟩, ⟨fun hl => ⟨(h4.out (hl.back (by decide))).1.fwd, (h4.out (hl.back (by decide))).2⟩⟩, ⟨fun hl => ⟨(h5.out (hl.back (by decide))).1.fwd, (h5.out (hl.back (by decide))).2⟩⟩, ⟨fun _ => ⟨L1.fwd, L4.fwd, _, e17, dom_set hbx⟩⟩, ⟨fun hl => ⟨(h7.out (hl.back (by decide))).1.fwd, (h7.out (hl.back (by decide))).2⟩⟩⟩
    refine StepsL.cons 8 [5, 6, 0, 1, 2, 3, 4, 5, 6] rfl (by kernel_rfl) rfl (by intro d hd; injection hd with hd; subst hd; decide) (fun l f W hR hn hb K Q2 hK => ?_) ?_
    · obtain ⟨hS, h0, h1, h2, h3, h4, h5, h6, h7⟩ := hR
      have q0 := h0.out (hb 0 (by simp))
      have q1 := h1.out (hb 1 (by simp))
      have q2 := h2.out (hb 2 (by simp))
      have q3 := h3.out (hb 3 (by simp))
      have q4 := h4.out (hb 4 (by simp))
      have q5 := h5.out (hb 5 (by simp))
      have q6 := h6.out (hb 6 (by simp))
      have hb5 := hb 5 (by simp)
      obtain ⟨L2, v5, e5⟩ := q5
      obtain ⟨T3, G3, e2, _⟩ := h2.out L2
      have e18 := (tuple2_snd (e2.symm.trans e5)).symm
      have L5 := hb5
      clear e2 e5 q3
      replace hb := Lib.hid hb
      refine ⟨?_⟩
      simp only [putF, Act.put, List.setIfInBounds_toArray, List.set_cons_zero, List.set_cons_succ] at hK ⊢
      (try simp only [q1, e18] at hK)
      replace hK := Lib.hid hK
      go_simp
      refine hK.out.out _ _ ⟨⟨hS.1, fun h => hS.2.1 (fun h2 => h h2.fwd), by simpa using hS.2.2⟩, ⟨fun hl => let ⟨S, a, b⟩ := (h0.out (hl.back (by decide))); ⟨S, a, fun h => b fun h2 => h h2.fwd⟩⟩, h1.k, h2.k, ⟨fun hl => ⟨(h3.out (hl.back (by decide))).1.fwd, (h3.out (hl.back (by decide))).2⟩⟩, ⟨fun hl => ⟨(h4.out (hl.back (by decide))).1.fwd, (h4.out (hl.back (by decide))).2⟩⟩, ⟨fun hl => ⟨(h5.out (hl.back (by decide))).1.fwd, (h5.out (hl.back (by decide))).2⟩⟩, ⟨fun hl => ⟨(h6.out (hl.back (by decide))).1.fwd, (h6.out (hl.back (by decide))).2.1.fwd, (h6.out (hl.back (by decide))).2.2⟩⟩, ⟨fun _ => ⟨L5.fwd, e18.symm⟩⟩⟩
    exact StepsL.nil
  · intro l f W hR hall
    obtain ⟨hS, h0, h1, h2, h3, h4, h5, h6, h7⟩ := hR
    have q0 := h0.out (hall 0 (by decide))
    have q1 := h1.out (hall 1 (by decide))
    have q2 := h2.out (hall 2 (by decide))
    have q3 := h3.out (hall 3 (by decide))
    have q4 := h4.out (hall 4 (by decide))
    have q5 := h5.out (hall 5 (by decide))
    have q6 := h6.out (hall 6 (by decide))
    have q7 := h7.out (hall 7 (by decide))
    clear h0 h1 h2 h3 h4 h5 h6 h7
    obtain ⟨T3, G3, e2, hO3, hG3⟩ := q2
    obtain ⟨_, v4, e4⟩ := q4
    obtain ⟨_, v5, e5⟩ := q5
    have e17 := tuple2_fst (e2.symm.trans e4)
    have e18 := (tuple2_snd (e2.symm.trans e5)).symm
    obtain ⟨_, _, cs6, e6, hbb⟩ := q6
    rw [← e17] at e6
    injection e6 with e6
    subst e6
    have e3 := q7.2.trans e18
    have hwb := hwa.trans (hS.1.mono (by omega))
    have hsb := hS.1.size
    have hdb := hO3.read fun i b hb => hO3.lt i b hb
    simp only [putF, Act.put, List.setIfInBounds_toArray, List.set_cons_zero, List.set_cons_succ]
    simp only [e3]
    clear e2 e4 e5 e17 e18 e3
    clear q0 q1 q3 q7 hall hS hba hda hO3 hG3
    obtain ⟨Wb, rfl⟩ : ∃ X, X = W := ⟨_, rfl⟩
    obtain ⟨cb, fb, zb⟩ := blk hbb
    go_wp2_with fail
    clear cb fb zb
    refine wp_region_inv [20, 21, 22, 19, 23, 24, 4, 5] (fun l f W => (Below Wb.heap.size Wb W ∧ l.size = 8) ∧ Fa l 0 (∃ S, f 20 = .agg #[.int .i64 oneCfg.sets, .int .i64 oneCfg.ways, .int .i64 oneCfg.doms, .int .i64 oneCfg.pad, .int .i64 oneCfg.quantum, .slice S.a0 oneCfg.slots.length S.n0, .slice S.a1 oneCfg.owners.length S.n1, .slice S.a2 oneCfg.chans.length S.n2, .slice S.a3 oneCfg.tasks.length S.n3] ∧ TCfg.At (Low W.heap.size) W oneCfg S) ∧ Fa l 1 (f 21 = .agg #[.slice T3.a0 begD1.jobs.length T3.n0, .slice T3.a1 begD1.released.length T3.n1, .int .i64 begD1.next, .slice T3.a2 begD1.ins.length T3.n2, .slice T3.a3 begD1.taken.length T3.n3, .slice T3.a4 begD1.outs.length T3.n4, .slice T3.a5 begD1.events.length T3.n5]) ∧ Fa l 2 (f 22 = .tuple #[.int .i64 0, .int .i64 0]) ∧ Fa l 3 (f 19 = .tuple #[.int .i64 0, .int .i64 0]) ∧ Fa l 4 (f 23 = .int .i64 0) ∧ Fa l 5 (f 24 = .int .i64 0) ∧ Fa l 6 (f 4 = .int .i64 0) ∧ Fa l 7 (f 5 = .int .i64 0)) (by kernel_rfl) (by decide) (by kernel_rfl) (by intro s hs; simp at hs ⊢; omega) ?_ ?_ ?_
    · intro l hz hl
      exact ⟨⟨(Below.refl _ _).drew, hz⟩, .no (hl 0), .no (hl 1), .no (hl 2), .no (hl 3), .no (hl 4), .no (hl 5), .no (hl 6), .no (hl 7)⟩
    · refine StepsL.cons 1 [] rfl (by kernel_rfl) rfl (by intro d hd; injection hd with hd; subst hd; decide) (fun l f W hR hn hb K Q2 hK => ?_) ?_
      · obtain ⟨hS, h0, h1, h2, h3, h4, h5, h6, h7⟩ := hR
        replace hb := Lib.hid hb
        refine ⟨?_⟩
        simp only [putF, Act.put, List.setIfInBounds_toArray, List.set_cons_zero, List.set_cons_succ] at hK ⊢
        replace hK := Lib.hid hK
        have HC := H0.out W
        go_simp
        go_at_call 84
        refine HC.mono ?_
        clear HC
        rintro e w3 ⟨S3, rfl, hs3, hb3⟩
        try dsimp only
        try simp only [Act.put, List.setIfInBounds_toArray, List.set_cons_zero, List.set_cons_succ]
        refine hK.out.out _ _ ⟨⟨hS.1.trans (hb3.mono hS.1.size), by simpa using hS.2⟩, ⟨fun _ => ⟨S3, rfl, hs3.rng (Nat.le_refl _)⟩⟩, h1.k, h2.k, h3.k, h4.k, h5.k, h6.k, h7.k⟩
      refine StepsL.cons 2 [] rfl (by kernel_rfl) rfl (by intro d hd; injection hd with hd; subst hd; decide) (fun l f W hR hn hb K Q2 hK => ?_) ?_
      · obtain ⟨hS, h0, h1, h2, h3, h4, h5, h6, h7⟩ := hR
        replace hb := Lib.hid hb
        refine ⟨?_⟩
        simp only [putF, Act.put, List.setIfInBounds_toArray, List.set_cons_zero, List.set_cons_succ] at hK ⊢
        replace hK := Lib.hid hK
        obtain ⟨cX, fX, zX⟩ := blk ((hS.1.block _ (blk hbb).2.2).trans hbb)
        go_simp
        refine hK.out.out _ _ ⟨⟨hS.1, by simpa using hS.2⟩, h0.k, ⟨fun _ => rfl⟩, h2.k, h3.k, h4.k, h5.k, h6.k, h7.k⟩
      refine StepsL.cons 3 [0, 1, 0] rfl (by kernel_rfl) rfl (by intro d hd; injection hd with hd; subst hd; decide) (fun l f W hR hn hb K Q2 hK => ?_) ?_
      · obtain ⟨hS, h0, h1, h2, h3, h4, h5, h6, h7⟩ := hR
        have q0 := h0.out (hb 0 (by simp))
        have q1 := h1.out (hb 1 (by simp))
        obtain ⟨S3, e0, hs3⟩ := q0
        have hd3 := (hdb.next (Nat.le_refl _) hS.1).up (B' := W.heap.size) hS.1.size
        replace hb := Lib.hid hb
        refine ⟨?_⟩
        simp only [putF, Act.put, List.setIfInBounds_toArray, List.set_cons_zero, List.set_cons_succ] at hK ⊢
        (try simp only [q1, e0] at hK)
        replace hK := Lib.hid hK
        have HC := H3.out S3 T3 W hs3 hd3
        simp only [q1, e0]
        go_simp
        go_at_call 50
        refine HC.mono ?_
        clear HC
        rintro e w3 ⟨rfl, hb3⟩
        try dsimp only
        try simp only [Act.put, List.setIfInBounds_toArray, List.set_cons_zero, List.set_cons_succ]
        refine hK.out.out _ _ ⟨⟨hS.1.trans (hb3.mono hS.1.size), by simpa using hS.2⟩, ⟨fun hl => let ⟨S, a, b⟩ := (h0.out (hl.back (by decide))); ⟨S, a, (b.next (Nat.le_refl _) hb3).up hb3.size⟩⟩, h1.k, ⟨fun _ => rfl⟩, h3.k, h4.k, h5.k, h6.k, h7.k⟩
      refine StepsL.cons 4 [2] rfl (by kernel_rfl) rfl (by intro d hd; injection hd with hd; subst hd; decide) (fun l f W hR hn hb K Q2 hK => ?_) ?_
      · obtain ⟨hS, h0, h1, h2, h3, h4, h5, h6, h7⟩ := hR
        have q2 := h2.out (hb 2 (by simp))
        replace hb := Lib.hid hb
        refine ⟨?_⟩
        simp only [putF, Act.put, List.setIfInBounds_toArray, List.set_cons_zero, List.set_cons_succ] at hK ⊢
        (try simp only [q2] at hK)
        replace hK := Lib.hid hK
        go_simp
        refine hK.out.out _ _ ⟨⟨hS.1, by simpa using hS.2⟩, h0.k, h1.k, h2.k, ⟨fun _ => rfl⟩, h4.k, h5.k, h6.k, h7.k⟩
      refine StepsL.cons 5 [3] rfl (by kernel_rfl) rfl (by intro d hd; injection hd with hd; subst hd; decide) (fun l f W hR hn hb K Q2 hK => ?_) ?_
      · obtain ⟨hS, h0, h1, h2, h3, h4, h5, h6, h7⟩ := hR
        have q3 := h3.out (hb 3 (by simp))
        replace hb := Lib.hid hb
        refine ⟨?_⟩
        simp only [putF, Act.put, List.setIfInBounds_toArray, List.set_cons_zero, List.set_cons_succ] at hK ⊢
        (try simp only [q3] at hK)
        replace hK := Lib.hid hK
        go_simp
        refine hK.out.out _ _ ⟨⟨hS.1, by simpa using hS.2⟩, h0.k, h1.k, h2.k, h3.k, ⟨fun _ => rfl⟩, h5.k, h6.k, h7.k⟩
      refine StepsL.cons 6 [3] rfl (by kernel_rfl) rfl (by intro d hd; injection hd with hd; subst hd; decide) (fun l f W hR hn hb K Q2 hK => ?_) ?_
      · obtain ⟨hS, h0, h1, h2, h3, h4, h5, h6, h7⟩ := hR
        have q3 := h3.out (hb 3 (by simp))
        replace hb := Lib.hid hb
        refine ⟨?_⟩
        simp only [putF, Act.put, List.setIfInBounds_toArray, List.set_cons_zero, List.set_cons_succ] at hK ⊢
        (try simp only [q3] at hK)
        replace hK := Lib.hid hK
        go_simp
        refine hK.out.out _ _ ⟨⟨hS.1, by simpa using hS.2⟩, h0.k, h1.k, h2.k, h3.k, h4.k, ⟨fun _ => rfl⟩, h6.k, h7.k⟩
      refine StepsL.cons 7 [4, 2, 0, 1, 2, 3, 4] rfl (by kernel_rfl) rfl (by intro d hd; injection hd with hd; subst hd; decide) (fun l f W hR hn hb K Q2 hK => ?_) ?_
      · obtain ⟨hS, h0, h1, h2, h3, h4, h5, h6, h7⟩ := hR
        have q0 := h0.out (hb 0 (by simp))
        have q1 := h1.out (hb 1 (by simp))
        have q2 := h2.out (hb 2 (by simp))
        have q3 := h3.out (hb 3 (by simp))
        have q4 := h4.out (hb 4 (by simp))
        replace hb := Lib.hid hb
        refine ⟨?_⟩
        simp only [putF, Act.put, List.setIfInBounds_toArray, List.set_cons_zero, List.set_cons_succ] at hK ⊢
        (try simp only [q1, q2, q3, q4] at hK)
        replace hK := Lib.hid hK
        go_simp
        refine hK.out.out _ _ ⟨⟨hS.1, by simpa using hS.2⟩, h0.k, h1.k, h2.k, h3.k, h4.k, h5.k, ⟨fun _ => rfl⟩, h7.k⟩
      refine StepsL.cons 8 [5, 6, 0, 1, 2, 3, 4, 5, 6] rfl (by kernel_rfl) rfl (by intro d hd; injection hd with hd; subst hd; decide) (fun l f W hR hn hb K Q2 hK => ?_) ?_
      · obtain ⟨hS, h0, h1, h2, h3, h4, h5, h6, h7⟩ := hR
        have q0 := h0.out (hb 0 (by simp))
        have q1 := h1.out (hb 1 (by simp))
        have q2 := h2.out (hb 2 (by simp))
        have q3 := h3.out (hb 3 (by simp))
        have q4 := h4.out (hb 4 (by simp))
        have q5 := h5.out (hb 5 (by simp))
        have q6 := h6.out (hb 6 (by simp))
        replace hb := Lib.hid hb
        refine ⟨?_⟩
        simp only [putF, Act.put, List.setIfInBounds_toArray, List.set_cons_zero, List.set_cons_succ] at hK ⊢
        (try simp only [q1, q2, q3, q4, q5, q6] at hK)
        replace hK := Lib.hid hK
        go_simp
        refine hK.out.out _ _ ⟨⟨hS.1, by simpa using hS.2⟩, h0.k, h1.k, h2.k, h3.k, h4.k, h5.k, h6.k, ⟨fun _ => rfl⟩⟩
      exact StepsL.nil
    · intro l f W hR hall
      obtain ⟨hS, h0, h1, h2, h3, h4, h5, h6, h7⟩ := hR
      have q0 := h0.out (hall 0 (by decide))
      have q1 := h1.out (hall 1 (by decide))
      have q2 := h2.out (hall 2 (by decide))
      have q3 := h3.out (hall 3 (by decide))
      have q4 := h4.out (hall 4 (by decide))
      have q5 := h5.out (hall 5 (by decide))
      have q6 := h6.out (hall 6 (by decide))
      have q7 := h7.out (hall 7 (by decide))
      clear h0 h1 h2 h3 h4 h5 h6 h7
      have hbb' := (hS.1.block _ (blk hbb).2.2).trans hbb
      have hdb' := (hdb.next (Nat.le_refl _) hS.1).up (B' := W.heap.size) hS.1.size
      have hwb' := hwb.trans (hS.1.mono (by have := hwb.size; omega))
      have hsb' := Nat.le_trans hsb hS.1.size
      simp only [putF, Act.put, List.setIfInBounds_toArray, List.set_cons_zero, List.set_cons_succ]
      simp only [q6, q7]
      clear q0 q1 q2 q3 q4 q5 q6 q7 hall hS hbb hdb hwb hsb
      have hbb := hbb'
      have hdb := hdb'
      have hwb := hwb'
      have hsb := hsb'
      clear hbb' hdb' hwb' hsb'
      obtain ⟨Wc, rfl⟩ : ∃ X, X = W := ⟨_, rfl⟩
      obtain ⟨cb, fb, zb⟩ := blk hbb
      go_wp2_with fail
      clear cb fb zb
      refine wp_region_inv [26, 27, 28, 25, 29, 30, 6, 7] (fun l f W => (Below Wc.heap.size Wc W ∧ l.size = 8) ∧ Fa l 0 (∃ S, f 26 = .agg #[.int .i64 oneCfg.sets, .int .i64 oneCfg.ways, .int .i64 oneCfg.doms, .int .i64 oneCfg.pad, .int .i64 oneCfg.quantum, .slice S.a0 oneCfg.slots.length S.n0, .slice S.a1 oneCfg.owners.length S.n1, .slice S.a2 oneCfg.chans.length S.n2, .slice S.a3 oneCfg.tasks.length S.n3] ∧ TCfg.At (Low W.heap.size) W oneCfg S) ∧ Fa l 1 (f 27 = .agg #[.slice T3.a0 begD1.jobs.length T3.n0, .slice T3.a1 begD1.released.length T3.n1, .int .i64 begD1.next, .slice T3.a2 begD1.ins.length T3.n2, .slice T3.a3 begD1.taken.length T3.n3, .slice T3.a4 begD1.outs.length T3.n4, .slice T3.a5 begD1.events.length T3.n5]) ∧ Fa l 2 (f 28 = .tuple #[.int .i64 50, .int .i64 0]) ∧ Fa l 3 (f 25 = .tuple #[.int .i64 50, .int .i64 0]) ∧ Fa l 4 (f 29 = .int .i64 50) ∧ Fa l 5 (f 30 = .int .i64 0) ∧ Fa l 6 (f 6 = .int .i64 50) ∧ Fa l 7 (f 7 = .int .i64 0)) (by kernel_rfl) (by decide) (by kernel_rfl) (by intro s hs; simp at hs ⊢; omega) ?_ ?_ ?_
      · intro l hz hl
        exact ⟨⟨(Below.refl _ _).drew, hz⟩, .no (hl 0), .no (hl 1), .no (hl 2), .no (hl 3), .no (hl 4), .no (hl 5), .no (hl 6), .no (hl 7)⟩
      · refine StepsL.cons 1 [] rfl (by kernel_rfl) rfl (by intro d hd; injection hd with hd; subst hd; decide) (fun l f W hR hn hb K Q2 hK => ?_) ?_
        · obtain ⟨hS, h0, h1, h2, h3, h4, h5, h6, h7⟩ := hR
          replace hb := Lib.hid hb
          refine ⟨?_⟩
          simp only [putF, Act.put, List.setIfInBounds_toArray, List.set_cons_zero, List.set_cons_succ] at hK ⊢
          replace hK := Lib.hid hK
          have HC := H0.out W
          go_simp
          go_at_call 84
          refine HC.mono ?_
          clear HC
          rintro e w3 ⟨S3, rfl, hs3, hb3⟩
          try dsimp only
          try simp only [Act.put, List.setIfInBounds_toArray, List.set_cons_zero, List.set_cons_succ]
          refine hK.out.out _ _ ⟨⟨hS.1.trans (hb3.mono hS.1.size), by simpa using hS.2⟩, ⟨fun _ => ⟨S3, rfl, hs3.rng (Nat.le_refl _)⟩⟩, h1.k, h2.k, h3.k, h4.k, h5.k, h6.k, h7.k⟩
        refine StepsL.cons 2 [] rfl (by kernel_rfl) rfl (by intro d hd; injection hd with hd; subst hd; decide) (fun l f W hR hn hb K Q2 hK => ?_) ?_
        · obtain ⟨hS, h0, h1, h2, h3, h4, h5, h6, h7⟩ := hR
          replace hb := Lib.hid hb
          refine ⟨?_⟩
          simp only [putF, Act.put, List.setIfInBounds_toArray, List.set_cons_zero, List.set_cons_succ] at hK ⊢
          replace hK := Lib.hid hK
          obtain ⟨cX, fX, zX⟩ := blk ((hS.1.block _ (blk hbb).2.2).trans hbb)
          go_simp
          refine hK.out.out _ _ ⟨⟨hS.1, by simpa using hS.2⟩, h0.k, ⟨fun _ => rfl⟩, h2.k, h3.k, h4.k, h5.k, h6.k, h7.k⟩
        refine StepsL.cons 3 [0, 1, 0] rfl (by kernel_rfl) rfl (by intro d hd; injection hd with hd; subst hd; decide) (fun l f W hR hn hb K Q2 hK => ?_) ?_
        · obtain ⟨hS, h0, h1, h2, h3, h4, h5, h6, h7⟩ := hR
          have q0 := h0.out (hb 0 (by simp))
          have q1 := h1.out (hb 1 (by simp))
          obtain ⟨S3, e0, hs3⟩ := q0
          have hd3 := (hdb.next (Nat.le_refl _) hS.1).up (B' := W.heap.size) hS.1.size
          replace hb := Lib.hid hb
          refine ⟨?_⟩
          simp only [putF, Act.put, List.setIfInBounds_toArray, List.set_cons_zero, List.set_cons_succ] at hK ⊢
          (try simp only [q1, e0] at hK)
          replace hK := Lib.hid hK
          have HC := H4.out S3 T3 W hs3 hd3
          simp only [q1, e0]
          go_simp
          go_at_call 51
          refine HC.mono ?_
          clear HC
          rintro e w3 ⟨rfl, hb3⟩
          try dsimp only
          try simp only [Act.put, List.setIfInBounds_toArray, List.set_cons_zero, List.set_cons_succ]
          refine hK.out.out _ _ ⟨⟨hS.1.trans (hb3.mono hS.1.size), by simpa using hS.2⟩, ⟨fun hl => let ⟨S, a, b⟩ := (h0.out (hl.back (by decide))); ⟨S, a, (b.next (Nat.le_refl _) hb3).up hb3.size⟩⟩, h1.k, ⟨fun _ => rfl⟩, h3.k, h4.k, h5.k, h6.k, h7.k⟩
        refine StepsL.cons 4 [2] rfl (by kernel_rfl) rfl (by intro d hd; injection hd with hd; subst hd; decide) (fun l f W hR hn hb K Q2 hK => ?_) ?_
        · obtain ⟨hS, h0, h1, h2, h3, h4, h5, h6, h7⟩ := hR
          have q2 := h2.out (hb 2 (by simp))
          replace hb := Lib.hid hb
          refine ⟨?_⟩
          simp only [putF, Act.put, List.setIfInBounds_toArray, List.set_cons_zero, List.set_cons_succ] at hK ⊢
          (try simp only [q2] at hK)
          replace hK := Lib.hid hK
          go_simp
          refine hK.out.out _ _ ⟨⟨hS.1, by simpa using hS.2⟩, h0.k, h1.k, h2.k, ⟨fun _ => rfl⟩, h4.k, h5.k, h6.k, h7.k⟩
        refine StepsL.cons 5 [3] rfl (by kernel_rfl) rfl (by intro d hd; injection hd with hd; subst hd; decide) (fun l f W hR hn hb K Q2 hK => ?_) ?_
        · obtain ⟨hS, h0, h1, h2, h3, h4, h5, h6, h7⟩ := hR
          have q3 := h3.out (hb 3 (by simp))
          replace hb := Lib.hid hb
          refine ⟨?_⟩
          simp only [putF, Act.put, List.setIfInBounds_toArray, List.set_cons_zero, List.set_cons_succ] at hK ⊢
          (try simp only [q3] at hK)
          replace hK := Lib.hid hK
          go_simp
          refine hK.out.out _ _ ⟨⟨hS.1, by simpa using hS.2⟩, h0.k, h1.k, h2.k, h3.k, ⟨fun _ => rfl⟩, h5.k, h6.k, h7.k⟩
        refine StepsL.cons 6 [3] rfl (by kernel_rfl) rfl (by intro d hd; injection hd with hd; subst hd; decide) (fun l f W hR hn hb K Q2 hK => ?_) ?_
        · obtain ⟨hS, h0, h1, h2, h3, h4, h5, h6, h7⟩ := hR
          have q3 := h3.out (hb 3 (by simp))
          replace hb := Lib.hid hb
          refine ⟨?_⟩
          simp only [putF, Act.put, List.setIfInBounds_toArray, List.set_cons_zero, List.set_cons_succ] at hK ⊢
          (try simp only [q3] at hK)
          replace hK := Lib.hid hK
          go_simp
          refine hK.out.out _ _ ⟨⟨hS.1, by simpa using hS.2⟩, h0.k, h1.k, h2.k, h3.k, h4.k, ⟨fun _ => rfl⟩, h6.k, h7.k⟩
        refine StepsL.cons 7 [4, 2, 0, 1, 2, 3, 4] rfl (by kernel_rfl) rfl (by intro d hd; injection hd with hd; subst hd; decide) (fun l f W hR hn hb K Q2 hK => ?_) ?_
        · obtain ⟨hS, h0, h1, h2, h3, h4, h5, h6, h7⟩ := hR
          have q0 := h0.out (hb 0 (by simp))
          have q1 := h1.out (hb 1 (by simp))
          have q2 := h2.out (hb 2 (by simp))
          have q3 := h3.out (hb 3 (by simp))
          have q4 := h4.out (hb 4 (by simp))
          replace hb := Lib.hid hb
          refine ⟨?_⟩
          simp only [putF, Act.put, List.setIfInBounds_toArray, List.set_cons_zero, List.set_cons_succ] at hK ⊢
          (try simp only [q1, q2, q3, q4] at hK)
          replace hK := Lib.hid hK
          go_simp
          refine hK.out.out _ _ ⟨⟨hS.1, by simpa using hS.2⟩, h0.k, h1.k, h2.k, h3.k, h4.k, h5.k, ⟨fun _ => rfl⟩, h7.k⟩
        refine StepsL.cons 8 [5, 6, 0, 1, 2, 3, 4, 5, 6] rfl (by kernel_rfl) rfl (by intro d hd; injection hd with hd; subst hd; decide) (fun l f W hR hn hb K Q2 hK => ?_) ?_
        · obtain ⟨hS, h0, h1, h2, h3, h4, h5, h6, h7⟩ := hR
          have q0 := h0.out (hb 0 (by simp))
          have q1 := h1.out (hb 1 (by simp))
          have q2 := h2.out (hb 2 (by simp))
          have q3 := h3.out (hb 3 (by simp))
          have q4 := h4.out (hb 4 (by simp))
          have q5 := h5.out (hb 5 (by simp))
          have q6 := h6.out (hb 6 (by simp))
          replace hb := Lib.hid hb
          refine ⟨?_⟩
          simp only [putF, Act.put, List.setIfInBounds_toArray, List.set_cons_zero, List.set_cons_succ] at hK ⊢
          (try simp only [q1, q2, q3, q4, q5, q6] at hK)
          replace hK := Lib.hid hK
          go_simp
          refine hK.out.out _ _ ⟨⟨hS.1, by simpa using hS.2⟩, h0.k, h1.k, h2.k, h3.k, h4.k, h5.k, h6.k, ⟨fun _ => rfl⟩⟩
        exact StepsL.nil
      · intro l f W hR hall
        obtain ⟨hS, h0, h1, h2, h3, h4, h5, h6, h7⟩ := hR
        have q0 := h0.out (hall 0 (by decide))
        have q1 := h1.out (hall 1 (by decide))
        have q2 := h2.out (hall 2 (by decide))
        have q3 := h3.out (hall 3 (by decide))
        have q4 := h4.out (hall 4 (by decide))
        have q5 := h5.out (hall 5 (by decide))
        have q6 := h6.out (hall 6 (by decide))
        have q7 := h7.out (hall 7 (by decide))
        clear h0 h1 h2 h3 h4 h5 h6 h7
        have hbb' := (hS.1.block _ (blk hbb).2.2).trans hbb
        have hdb' := (hdb.next (Nat.le_refl _) hS.1).up (B' := W.heap.size) hS.1.size
        have hwb' := hwb.trans (hS.1.mono (by have := hwb.size; omega))
        have hsb' := Nat.le_trans hsb hS.1.size
        simp only [putF, Act.put, List.setIfInBounds_toArray, List.set_cons_zero, List.set_cons_succ]
        simp only [q6, q7]
        clear q0 q1 q2 q3 q4 q5 q6 q7 hall hS hbb hdb hwb hsb
        have hbb := hbb'
        have hdb := hdb'
        have hwb := hwb'
        have hsb := hsb'
        clear hbb' hdb' hwb' hsb'
        obtain ⟨Wd, rfl⟩ : ∃ X, X = W := ⟨_, rfl⟩
        obtain ⟨cb, fb, zb⟩ := blk hbb
        go_wp2_with fail
        clear cb fb zb
        obtain ⟨a0, n0, a1, n1, a2, n2, a3, n3, a4, n4, a5, n5⟩ := T3
        obtain ⟨b, o, ea, hI, _, _, _, _, _, k5⟩ := hdb.s0.at_job (i := 0) (by decide)
        dsimp only at ea
        subst ea
        simp only [show begD1.jobs.length = 1 from rfl, show begD1.released.length = 1 from rfl, show begD1.next = 0 from rfl, show begD1.ins.length = 0 from rfl, show begD1.taken.length = 0 from rfl, show begD1.outs.length = 0 from rfl, show begD1.events.length = 2 from rfl] at H5 hbb
        rw [show (nth begD1.jobs 0).missed = true from rfl, Nat.zero_mul, Nat.add_zero] at k5
        have hbl : b < Wd.heap.size := hI
        obtain ⟨cb, fb, zb⟩ := blk hbb
        replace hdb := Lib.hid hdb
        clear hI
        go_region_held3 (fun w' => (∀ oo, w'.cell? ⟨w2.heap.size, oo, none⟩ = #[.slice (some ⟨b, o, none⟩) 1 n0, .slice a1 1 n1, .int .i64 0, .slice a2 0 n2, .slice a3 0 n3, .slice a4 0 n4, .slice a5 2 n5][oo]?) ∧ w'.cell? ⟨b, o + 5, none⟩ = some (.bool true)) (((try dsimp only); (repeat' apply And.intro) <;> (first | exact fun oo => (Below.cell (B := Wd.heap.size) (w := Wd) byB (by first | assumption | omega)).trans (cb oo) | exact (Below.cell (B := Wd.heap.size) (w := Wd) byB (by first | assumption | omega)).trans (by assumption) | go_keep | (simp [go_sem, *]; done))))
          (first | (go_at_call 84; refine (H0.out _).mono ?_; rintro e w6 ⟨S6, rfl, hs6, hb_w6⟩; refine have_then (P := Below w.heap.size w w6) byB (fun h_w6 => ?_); have s_w6 := Below.size h_w6; have t_w6 := Below.size hb_w6; (try simp at t_w6); revert hb_w6; intro hb_w6) | (go_at_call 60; refine (H5.out S6 _ _ ((hs6.keepI byI).rng byS) ((hdb.out.next (Nat.le_refl _) byB).up byS)).mono ?_; rintro e w7 ⟨rfl, hb_w7⟩; refine have_then (P := Below w.heap.size w w7) byB (fun h_w7 => ?_); have s_w7 := Below.size h_w7; have t_w7 := Below.size hb_w7; (try simp at t_w7); revert hb_w7; intro hb_w7))
        all_goals
          go_wp2_with fail
          go_ret
          exact ⟨rfl, byB⟩
end Go.Proofs.Ytinlmkhlgclbfaa
