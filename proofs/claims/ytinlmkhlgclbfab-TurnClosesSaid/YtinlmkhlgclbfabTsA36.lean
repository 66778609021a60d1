/- LawTurnB -/
import Derived.Test.YtinlmkhlgclbfabTsA30
import Derived.Test.YtinlmkhlgclbfabTsA34
import Derived.Test.YtinlmkhlgclbfabTsA35
namespace Go.Proofs.Ytinlmkhlgclbfab
open Go.RowKit
set_option maxRecDepth 100000
set_option maxHeartbeats 8000000

def begD0 : TDom := ⟨[], [0], 0, [], [], [], []⟩
def begO : TDom := ⟨[], [0], 0, [], [], [], [⟨100, 1, 0, 0⟩]⟩
theorem beg_new : newOf oneCfg 0 = begD0 ∧ newErr oneCfg 0 = 0 := by decide +kernel
theorem beg_open : openRes oneCfg [] 0 begD0 0 100 = begO ∧ openErr oneCfg [] 0 begD0 0 100 = 0 := by decide +kernel
theorem beg_close : closeRes oneCfg [begO] 0 = [begO] ∧ closeErr oneCfg [begO] 0 = 0 := by decide +kernel
theorem beg_len : (if checkConfig oneCfg = 0 then roundOf oneCfg else 0) = 100 ∧ checkConfig oneCfg = 0 := by decide +kernel
theorem beg_start : (if startErr oneCfg 2 0 = 0 then startOf oneCfg 2 0 else 0) = 200 ∧ startErr oneCfg 2 0 = 0 := by decide +kernel
theorem begSz0 : DomSz begD0 := ⟨by decide, by decide, by decide, fun i hi => absurd hi (by simp [begD0]), by decide, by decide, fun i hi => absurd hi (by simp [begD0]), by decide⟩
theorem begSzO : DomSz begO := ⟨by decide, by decide, by decide, fun i hi => absurd hi (by simp [begO]), by decide, by decide, fun i hi => absurd hi (by simp [begO]), by decide⟩
theorem sl_begO {w : World} {g N : Nat} {a0 a1 a2 a3 a4 a5 : Option Addr} {n0 n1 n2 n3 n4 n5 : Nat} {t : TypeId} (h : w.heap[g]? = some (.cells #[.slice a0 0 n0, .slice a1 1 n1, .int .i64 0, .slice a2 0 n2, .slice a3 0 n3, .slice a4 0 n4, .slice a5 1 n5] t)) (ht : TDom.At (Low N) w begO ⟨a0, n0, a1, n1, a2, n2, a3, n3, a4, n4, a5, n5⟩) (hg : g < N) : Sl cDom (Low N) w (some ⟨g, 0, none⟩) 1 [begO] :=
  sl_dom1 (T := ⟨a0, n0, a1, n1, a2, n2, a3, n3, a4, n4, a5, n5⟩) h ht hg
theorem tuple2_fst {a b c d : Value} (h : Value.tuple #[a, b] = .tuple #[c, d]) : a = c := by injection h with h; injection h with h; injection h
theorem tuple2_snd {a b c d : Value} (h : Value.tuple #[a, b] = .tuple #[c, d]) : b = d := by injection h with h; injection h with h; injection h with _ h; injection h

theorem lawTurnBegun (w : World) : Calls Try.prog 15 #[] w fun en w' => en = .returned (.bool true) ∧ Below w.heap.size w w' := by
  have H0 := Lib.hid lawOne
  have HL := Lib.hid (fun S W (h : TCfg.At (Low W.heap.size) W oneCfg S) => turnLength oneCfg S W.heap.size W (Nat.le_refl _) h)
  rw [beg_len.1, beg_len.2] at HL
  have HS := Lib.hid (fun S W (h : TCfg.At (Low W.heap.size) W oneCfg S) => turnStart oneCfg S 2 0 W.heap.size W (Nat.le_refl _) h)
  rw [beg_start.1, beg_start.2] at HS
  have H1 := Lib.hid (fun S W (h : TCfg.At (Low W.heap.size) W oneCfg S) => readyNew oneCfg S 0 W.heap.size W (Nat.le_refl _) h)
  rw [beg_new.1, beg_new.2] at H1
  have H2 := Lib.hid (fun S T W (h : TCfg.At (Low W.heap.size) W oneCfg S) (hd : TDom.At (Low W.heap.size) W begD0 T) => turnOpen oneCfg S [] none 0 0 begD0 T 0 100 begSz0 (by decide) W.heap.size W (Nat.le_refl _) h (Sl.empty _ _ _) hd)
  rw [beg_open.1, beg_open.2] at H2
  have H3 := Lib.hid (fun S A n W (h : TCfg.At (Low W.heap.size) W oneCfg S) (hd : Sl cDom (Low W.heap.size) W A n [begO]) => turnClose oneCfg S [begO] A n 0 (fun k hk => by (have hk0 : k = 0 := by simpa using hk); subst hk0; exact begSzO) W.heap.size W (Nat.le_refl _) h hd)
  rw [beg_close.1, beg_close.2] at H3
  go_enter Try.func15, Try.ntmps15
  go_wp2_with fail
  (go_at_call 49; refine (H0.out _).mono ?_; rintro e w1 ⟨S1, rfl, hs1, hb_w1⟩; refine have_then (P := Below w.heap.size w w1) byB (fun h_w1 => ?_); have s_w1 := Below.size h_w1; have t_w1 := Below.size hb_w1; (try simp at t_w1); revert hb_w1; intro hb_w1)
  go_wp2_with fail
  (go_at_call 10; refine (HL.out S1 _ ((hs1.keepI byI).rng byS)).mono ?_; rintro e w2 ⟨rfl, hb_w2⟩; refine have_then (P := Below w.heap.size w w2) byB (fun h_w2 => ?_); have s_w2 := Below.size h_w2; have t_w2 := Below.size hb_w2; (try simp at t_w2); revert hb_w2; intro hb_w2)
  go_wp2_with fail
  (go_at_call 49; refine (H0.out _).mono ?_; rintro e w3 ⟨S3, rfl, hs3, hb_w3⟩; refine have_then (P := Below w.heap.size w w3) byB (fun h_w3 => ?_); have s_w3 := Below.size h_w3; have t_w3 := Below.size hb_w3; (try simp at t_w3); revert hb_w3; intro hb_w3)
  go_wp2_with fail
  (go_at_call 11; refine (HS.out S3 _ ((hs3.keepI byI).rng byS)).mono ?_; rintro e w4 ⟨rfl, hb_w4⟩; refine have_then (P := Below w.heap.size w w4) byB (fun h_w4 => ?_); have s_w4 := Below.size h_w4; have t_w4 := Below.size hb_w4; (try simp at t_w4); revert hb_w4; intro hb_w4)
  go_wp2_with fail
  (go_at_call 49; refine (H0.out _).mono ?_; rintro e w5 ⟨S5, rfl, hs5, hb_w5⟩; refine have_then (P := Below w.heap.size w w5) byB (fun h_w5 => ?_); have s_w5 := Below.size h_w5; have t_w5 := Below.size hb_w5; (try simp at t_w5); revert hb_w5; intro hb_w5)
  go_wp2_with fail
  (go_at_call 50; refine (H1.out S5 _ ((hs5.keepI byI).rng byS)).mono ?_; rintro e w6 ⟨T6, G6, rfl, hO6, hG6, hb_w6⟩; refine have_then (P := Below w.heap.size w w6) byB (fun h_w6 => ?_); have s_w6 := Below.size h_w6; have t_w6 := Below.size hb_w6; (try simp at t_w6); revert hb_w6; intro hb_w6)
  go_wp2_with fail
  generalize hWa : w6.alloc (.cells #[.slice T6.a0 begD0.jobs.length T6.n0, .slice T6.a1 begD0.released.length T6.n1, .int .i64 begD0.next, .slice T6.a2 begD0.ins.length T6.n2, .slice T6.a3 begD0.taken.length T6.n3, .slice T6.a4 begD0.outs.length T6.n4, .slice T6.a5 begD0.events.length T6.n5] 45) = Wa
  have hba : Wa.heap[w6.heap.size]? = some (.cells #[.slice T6.a0 begD0.jobs.length T6.n0, .slice T6.a1 begD0.released.length T6.n1, .int .i64 begD0.next, .slice T6.a2 begD0.ins.length T6.n2, .slice T6.a3 begD0.taken.length T6.n3, .slice T6.a4 begD0.outs.length T6.n4, .slice T6.a5 begD0.events.length T6.n5] 45) := by rw [← hWa]; exact heapAt _ _ _ rfl
  have hda : TDom.At (Low w6.heap.size) Wa begD0 T6 := by rw [← hWa]; exact (hO6.read fun i b hb => hO6.lt i b hb).keep fun b hb => heap_alloc_old _ _ hb
  have hwa : Below w.heap.size w Wa := by rw [← hWa]; exact byB
  have hsa : w6.heap.size + 1 = Wa.heap.size := by rw [← hWa]; simp
  replace hWa := Lib.hid hWa
  clear hO6 hG6 hs1 hs3 hs5 HL HS H1
  refine wp_region_inv [26, 27, 28, 25, 29, 30, 7] (fun l f W => (Below w6.heap.size Wa W ∧ (¬ Lst l 6 → W.heap[w6.heap.size]? = some (.cells #[.slice T6.a0 begD0.jobs.length T6.n0, .slice T6.a1 begD0.released.length T6.n1, .int .i64 begD0.next, .slice T6.a2 begD0.ins.length T6.n2, .slice T6.a3 begD0.taken.length T6.n3, .slice T6.a4 begD0.outs.length T6.n4, .slice T6.a5 begD0.events.length T6.n5] 45)) ∧ l.size = 8) ∧ Fa l 0 (∃ S, f 26 = .agg #[.int .i64 oneCfg.sets, .int .i64 oneCfg.ways, .int .i64 oneCfg.doms, .int .i64 oneCfg.pad, .int .i64 oneCfg.quantum, .slice S.a0 oneCfg.slots.length S.n0, .slice S.a1 oneCfg.owners.length S.n1, .slice S.a2 oneCfg.chans.length S.n2, .slice S.a3 oneCfg.tasks.length S.n3] ∧ (¬ Lst l 2 → TCfg.At (Low W.heap.size) W oneCfg S)) ∧ Fa l 1 (f 27 = .agg #[.slice T6.a0 begD0.jobs.length T6.n0, .slice T6.a1 begD0.released.length T6.n1, .int .i64 begD0.next, .slice T6.a2 begD0.ins.length T6.n2, .slice T6.a3 begD0.taken.length T6.n3, .slice T6.a4 begD0.outs.length T6.n4, .slice T6.a5 begD0.events.length T6.n5]) ∧ Fa l 2 (∃ (T3 : TDomS) (G3 : Nat → Nat → Prop), f 28 = .tuple #[.agg #[.slice T3.a0 begO.jobs.length T3.n0, .slice T3.a1 begO.released.length T3.n1, .int .i64 begO.next, .slice T3.a2 begO.ins.length T3.n2, .slice T3.a3 begO.taken.length T3.n3, .slice T3.a4 begO.outs.length T3.n4, .slice T3.a5 begO.events.length T3.n5], .int .i64 0] ∧ DomO G3 W begO T3 ∧ ∀ i b, G3 i b → w6.heap.size < b) ∧ Fa l 3 (Lst l 2 ∧ f 25 = f 28) ∧ Fa l 4 (Lst l 2 ∧ ∃ v, f 28 = .tuple #[f 29, v]) ∧ Fa l 5 (Lst l 2 ∧ ∃ v, f 28 = .tuple #[v, f 30]) ∧ Fa l 6 (Lst l 1 ∧ Lst l 4 ∧ ∃ cs, f 29 = .agg cs ∧ W.heap[w6.heap.size]? = some (.cells cs 45)) ∧ Fa l 7 (Lst l 5 ∧ f 7 = f 30)) (by kernel_rfl) (by decide) (by kernel_rfl) (by intro s hs; simp at hs ⊢; omega) ?_ ?_ ?_
  · intro l hz hl
    exact ⟨⟨(Below.refl _ _).drew, fun _ => hba, hz⟩, .no (hl 0), .no (hl 1), .no (hl 2), .no (hl 3), .no (hl 4), .no (hl 5), .no (hl 6), .no (hl 7)⟩
  · refine StepsL.cons 1 [] rfl (by kernel_rfl) rfl (by intro d hd; injection hd with hd; subst hd; decide) (fun l f W hR hn hb K Q2 hK => ?_) ?_
    · obtain ⟨hS, h0, h1, h2, h3, h4, h5, h6, h7⟩ := hR
      replace hb := Lib.hid hb
      refine ⟨?_⟩
      simp only [putF, Act.put, List.setIfInBounds_toArray, List.set_cons_zero, List.set_cons_succ] at hK ⊢
      replace hK := Lib.hid hK
      have HC := H0.out W
      go_simp
      go_at_call 49
      refine HC.mono ?_
      clear HC
      rintro e w3 ⟨S3, rfl, hs3, hb3⟩
      try dsimp only
      try simp only [Act.put, List.setIfInBounds_toArray, List.set_cons_zero, List.set_cons_succ]
      refine hK.out.out _ _ ⟨⟨hS.1.trans (hb3.mono (by have := hS.1.size; omega)), fun h => (hb3.block _ (blk (hS.2.1 fun h2 => h h2.fwd)).2.2).trans (hS.2.1 fun h2 => h h2.fwd), by simpa using hS.2.2⟩, ⟨fun _ => ⟨S3, rfl, fun _ => hs3.rng (Nat.le_refl _)⟩⟩, h1.k, ⟨fun hl => let ⟨T, G, a, b, c⟩ := (h2.out (hl.back (by decide))); ⟨T, G, a, b.keep (fun i b2 h => hb3.block _ (b.lt i b2 h)) hb3.size, c⟩⟩, ⟨fun hl => ⟨(h3.out (hl.back (by decide))).1.fwd, (h3.out (hl.back (by decide))).2⟩⟩, ⟨fun hl => ⟨(h4.out (hl.back (by decide))).1.fwd, (h4.out (hl.back (by decide))).2⟩⟩, ⟨fun hl => ⟨(h5.out (hl.back (by decide))).1.fwd, (h5.out (hl.back (by decide))).2⟩⟩, ⟨fun hl => let ⟨a, b, cs, e, h⟩ := (h6.out (hl.back (by decide))); ⟨a.fwd, b.fwd, cs, e, (hb3.block _ (blk h).2.2).trans h⟩⟩, ⟨fun hl => ⟨(h7.out (hl.back (by decide))).1.fwd, (h7.out (hl.back (by decide))).2⟩⟩⟩
    refine StepsL.cons 2 [] rfl (by kernel_rfl) rfl (by intro d hd; injection hd with hd; subst hd; decide) (fun l f W hR hn hb K Q2 hK => ?_) ?_
    · obtain ⟨hS, h0, h1, h2, h3, h4, h5, h6, h7⟩ := hR
      replace hb := Lib.hid hb
      refine ⟨?_⟩
      simp only [putF, Act.put, List.setIfInBounds_toArray, List.set_cons_zero, List.set_cons_succ] at hK ⊢
      replace hK := Lib.hid hK
      obtain ⟨cX, fX, zX⟩ := blk (hS.2.1 (fun h => hn (h6.out h).1))
      go_simp
      refine hK.out.out _ _ ⟨⟨hS.1, fun h => hS.2.1 (fun h2 => h h2.fwd), by simpa using hS.2.2⟩, ⟨fun hl => let ⟨S, a, b⟩ := (h0.out (hl.back (by decide))); ⟨S, a, fun h => b fun h2 => h h2.fwd⟩⟩, ⟨fun _ => rfl⟩, h2.k, ⟨fun hl => ⟨(h3.out (hl.back (by decide))).1.fwd, (h3.out (hl.back (by decide))).2⟩⟩, ⟨fun hl => ⟨(h4.out (hl.back (by decide))).1.fwd, (h4.out (hl.back (by decide))).2⟩⟩, ⟨fun hl => ⟨(h5.out (hl.back (by decide))).1.fwd, (h5.out (hl.back (by decide))).2⟩⟩, ⟨fun hl => ⟨(h6.out (hl.back (by decide))).1.fwd, (h6.out (hl.back (by decide))).2.1.fwd, (h6.out (hl.back (by decide))).2.2⟩⟩, ⟨fun hl => ⟨(h7.out (hl.back (by decide))).1.fwd, (h7.out (hl.back (by decide))).2⟩⟩⟩
    refine StepsL.cons 3 [0, 1, 0] rfl (by kernel_rfl) rfl (by intro d hd; injection hd with hd; subst hd; decide) (fun l f W hR hn hb K Q2 hK => ?_) ?_
    · obtain ⟨hS, h0, h1, h2, h3, h4, h5, h6, h7⟩ := hR
      have q0 := h0.out (hb 0 (by simp))
      have q1 := h1.out (hb 1 (by simp))
      obtain ⟨S3, e0, hs3⟩ := q0
      have hs3 := hs3 hn
      have hsz := hS.1.size
      have hd3 := (hda.keep fun b hb => hS.1.block b hb).up (B' := W.heap.size) (by omega)
      replace hb := Lib.hid hb
      refine ⟨?_⟩
      simp only [putF, Act.put, List.setIfInBounds_toArray, List.set_cons_zero, List.set_cons_succ] at hK ⊢
      (try simp only [q1, e0] at hK)
      replace hK := Lib.hid hK
      have HC := H2.out S3 T6 W hs3 hd3
      simp only [q1, e0]
      go_simp
      go_at_call 16
      refine HC.mono ?_
      clear HC
      rintro e w3 ⟨T3, G3, rfl, hO3, hG3, hb3⟩
      try dsimp only
      try simp only [Act.put, List.setIfInBounds_toArray, List.set_cons_zero, List.set_cons_succ]
      refine hK.out.out _ _ ⟨⟨hS.1.trans (hb3.mono (by have := hS.1.size; omega)), fun h => (hb3.block _ (blk (hS.2.1 fun h2 => h h2.fwd)).2.2).trans (hS.2.1 fun h2 => h h2.fwd), by simpa using hS.2.2⟩, ⟨fun hl => let ⟨S, a, b⟩ := (h0.out (hl.back (by decide))); ⟨S, a, fun h => absurd (Lst.self (by rw [hS.2.2]; omega)) h⟩⟩, h1.k, ⟨fun _ => ⟨T3, G3, rfl, hO3, fun i b hb => by have := hG3 i b hb; omega⟩⟩, ⟨fun hl => absurd (h3.out (hl.back (by decide))).1 hn⟩, ⟨fun hl => absurd (h4.out (hl.back (by decide))).1 hn⟩, ⟨fun hl => absurd (h5.out (hl.back (by decide))).1 hn⟩, ⟨fun hl => absurd (h4.out (h6.out (hl.back (by decide))).2.1).1 hn⟩, ⟨fun hl => ⟨(h7.out (hl.back (by decide))).1.fwd, (h7.out (hl.back (by decide))).2⟩⟩⟩
    refine StepsL.cons 4 [2] rfl (by kernel_rfl) rfl (by intro d hd; injection hd with hd; subst hd; decide) (fun l f W hR hn hb K Q2 hK => ?_) ?_
    · obtain ⟨hS, h0, h1, h2, h3, h4, h5, h6, h7⟩ := hR
      have q2 := h2.out (hb 2 (by simp))
      have hb2 := hb 2 (by simp)
      have L2 := hb2
      obtain ⟨T3, G3, e2, _⟩ := q2
      replace hb := Lib.hid hb
      refine ⟨?_⟩
      simp only [putF, Act.put, List.setIfInBounds_toArray, List.set_cons_zero, List.set_cons_succ] at hK ⊢
      (try simp only [e2] at hK)
      replace hK := Lib.hid hK
      go_simp
      refine hK.out.out _ _ ⟨⟨hS.1, fun h => hS.2.1 (fun h2 => h h2.fwd), by simpa using hS.2.2⟩, ⟨fun hl => let ⟨S, a, b⟩ := (h0.out (hl.back (by decide))); ⟨S, a, fun h => b fun h2 => h h2.fwd⟩⟩, h1.k, h2.k, ⟨fun _ => ⟨L2.fwd, e2.symm⟩⟩, ⟨fun hl => ⟨(h4.out (hl.back (by decide))).1.fwd, (h4.out (hl.back (by decide))).2⟩⟩, ⟨fun hl => ⟨(h5.out (hl.back (by decide))).1.fwd, (h5.out (hl.back (by decide))).2⟩⟩, ⟨fun hl => ⟨(h6.out (hl.back (by decide))).1.fwd, (h6.out (hl.back (by decide))).2.1.fwd, (h6.out (hl.back (by decide))).2.2⟩⟩, ⟨fun hl => ⟨(h7.out (hl.back (by decide))).1.fwd, (h7.out (hl.back (by decide))).2⟩⟩⟩
    refine StepsL.cons 5 [3] rfl (by kernel_rfl) rfl (by intro d hd; injection hd with hd; subst hd; decide) (fun l f W hR hn hb K Q2 hK => ?_) ?_
    · obtain ⟨hS, h0, h1, h2, h3, h4, h5, h6, h7⟩ := hR
      have q3 := h3.out (hb 3 (by simp))
      obtain ⟨L2, e3⟩ := q3
      obtain ⟨T3, G3, e2, _⟩ := h2.out L2
      rw [e2] at e3
      replace hb := Lib.hid hb
      refine ⟨?_⟩
      simp only [putF, Act.put, List.setIfInBounds_toArray, List.set_cons_zero, List.set_cons_succ] at hK ⊢
      (try simp only [e3, e2] at hK)
      replace hK := Lib.hid hK
      go_simp
      refine hK.out.out _ _ ⟨⟨hS.1, fun h => hS.2.1 (fun h2 => h h2.fwd), by simpa using hS.2.2⟩, ⟨fun hl => let ⟨S, a, b⟩ := (h0.out (hl.back (by decide))); ⟨S, a, fun h => b fun h2 => h h2.fwd⟩⟩, h1.k, h2.k, ⟨fun hl => ⟨(h3.out (hl.back (by decide))).1.fwd, (h3.out (hl.back (by decide))).2⟩⟩, ⟨fun _ => ⟨L2.fwd, _, e2⟩⟩, ⟨fun hl => ⟨(h5.out (hl.back (by decide))).1.fwd, (h5.out (hl.back (by decide))).2⟩⟩, ⟨fun hl => absurd (h6.out (hl.back (by decide))).2.1 hn⟩, ⟨fun hl => ⟨(h7.out (hl.back (by decide))).1.fwd, (h7.out (hl.back (by decide))).2⟩⟩⟩
    refine StepsL.cons 6 [3] rfl (by kernel_rfl) rfl (by intro d hd; injection hd with hd; subst hd; decide) (fun l f W hR hn hb K Q2 hK => ?_) ?_
    · obtain ⟨hS, h0, h1, h2, h3, h4, h5, h6, h7⟩ := hR
      have q3 := h3.out (hb 3 (by simp))
      obtain ⟨L2, e3⟩ := q3
      obtain ⟨T3, G3, e2, _⟩ := h2.out L2
      rw [e2] at e3
      replace hb := Lib.hid hb
      refine ⟨?_⟩
      simp only [putF, Act.put, List.setIfInBounds_toArray, List.set_cons_zero, List.set_cons_succ] at hK ⊢
      (try simp only [e3, e2] at hK)
      replace hK := Lib.hid hK
      go_simp
      refine hK.out.out _ _ ⟨⟨hS.1, fun h => hS.2.1 (fun h2 => h h2.fwd), by simpa using hS.2.2⟩, ⟨fun hl => let ⟨S, a, b⟩ := (h0.out (hl.back (by decide))); ⟨S, a, fun h => b fun h2 => h h2.fwd⟩⟩, h1.k, h2.k, ⟨fun hl => ⟨(h3.out (hl.back (by decide))).1.fwd, (h3.out (hl.back (by decide))).2⟩⟩, ⟨fun hl => ⟨(h4.out (hl.back (by decide))).1.fwd, (h4.out (hl.back (by decide))).2⟩⟩, ⟨fun _ => ⟨L2.fwd, _, e2⟩⟩, ⟨fun hl => ⟨(h6.out (hl.back (by decide))).1.fwd, (h6.out (hl.back (by decide))).2.1.fwd, (h6.out (hl.back (by decide))).2.2⟩⟩, ⟨fun hl => absurd (h7.out (hl.back (by decide))).1 hn⟩⟩
    refine StepsL.cons 7 [4, 2, 0, 1, 2, 3, 4] rfl (by kernel_rfl) rfl (by intro d hd; cases hd) (fun l f W hR hn hb K Q2 hK => ?_) ?_
    · obtain ⟨hS, h0, h1, h2, h3, h4, h5, h6, h7⟩ := hR
      have q0 := h0.out (hb 0 (by simp))
      have q1 := h1.out (hb 1 (by simp))
      have q2 := h2.out (hb 2 (by simp))
      have q3 := h3.out (hb 3 (by simp))
      have q4 := h4.out (hb 4 (by simp))
      have hb1 := hb 1 (by simp)
      have hb4 := hb 4 (by simp)
      obtain ⟨L2, v4, e4⟩ := q4
      obtain ⟨T3, G3, e2, _⟩ := h2.out L2
      have e17 := (tuple2_fst (e2.symm.trans e4)).symm
      have L1 := hb1
      have L4 := hb4
      have hbx := hS.2.1 hn
      clear e2 e4 q3
      replace hb := Lib.hid hb
      refine ⟨?_⟩
      simp only [putF, Act.put, List.setIfInBounds_toArray, List.set_cons_zero, List.set_cons_succ] at hK ⊢
      (try simp only [q1, e17] at hK)
      replace hK := Lib.hid hK
      obtain ⟨cX, fX, zX⟩ := blk hbx
      go_simp
      refine hK.out.out undef _ ⟨⟨dom_below hS.1 (Nat.le_refl _), fun h => absurd (Lst.self (by rw [hS.2.2]; omega)) h, by simpa using hS.2.2⟩, ⟨fun hl => let ⟨S, a, b⟩ := (h0.out (hl.back (by decide))); ⟨S, a, fun h => absurd L2.fwd h⟩⟩, h1.k, ⟨fun hl => let ⟨T, G, a, b, c⟩ := (h2.out (hl.back (by decide))); ⟨T, G, a, b.keep (fun i b2 h => dom_far (by have := c i b2 h; omega)) (by simp), c⟩⟩, ⟨fun hl => ⟨(h3.out (hl.back (by decide))).1.fwd, (h3.out (hl.back (by decide))).2⟩⟩, ⟨fun hl => ⟨(h4.out (hl.back (by decide))).1.fwd, (h4.out (hl.back (by decide))).2⟩⟩, ⟨fun hl => ⟨(h5.out (hl.back (by decide))).1.fwd, (h5.out (hl.back (by decide))).2⟩⟩, ⟨fun _ => ⟨L1.fwd, L4.fwd, _, e17, dom_set hbx⟩⟩, ⟨fun hl => ⟨(h7.out (hl.back (by decide))).1.fwd, (h7.out (hl.back (by decide))).2⟩⟩⟩
    refine StepsL.cons 8 [5, 6, 0, 1, 2, 3, 4, 5, 6] rfl (by kernel_rfl) rfl (by intro d hd; injection hd with hd; subst hd; decide) (fun l f W hR hn hb K Q2 hK => ?_) ?_
    · obtain ⟨hS, h0, h1, h2, h3, h4, h5, h6, h7⟩ := hR
      have q0 := h0.out (hb 0 (by simp))
      have q1 := h1.out (hb 1 (by simp))
      have q2 := h2.out (hb 2 (by simp))
      have q3 := h3.out (hb 3 (by simp))
      have q4 := h4.out (hb 4 (by simp))
      have q5 := h5.out (hb 5 (by simp))
      have q6 := h6.out (hb 6 (by simp))
      have hb5 := hb 5 (by simp)
      obtain ⟨L2, v5, e5⟩ := q5
      obtain ⟨T3, G3, e2, _⟩ := h2.out L2
      have e18 := (tuple2_snd (e2.symm.trans e5)).symm
      have L5 := hb5
      clear e2 e5 q3
      replace hb := Lib.hid hb
      refine ⟨?_⟩
      simp only [putF, Act.put, List.setIfInBounds_toArray, List.set_cons_zero, List.set_cons_succ] at hK ⊢
      (try simp only [q1, e18] at hK)
      replace hK := Lib.hid hK
      go_simp
      refine hK.out.out _ _ ⟨⟨hS.1, fun h => hS.2.1 (fun h2 => h h2.fwd), by simpa using hS.2.2⟩, ⟨fun hl => let ⟨S, a, b⟩ := (h0.out (hl.back (by decide))); ⟨S, a, fun h => b fun h2 => h h2.fwd⟩⟩, h1.k, h2.k, ⟨fun hl => ⟨(h3.out (hl.back (by decide))).1.fwd, (h3.out (hl.back (by decide))).2⟩⟩, ⟨fun hl => ⟨(h4.out (hl.back (by decide))).1.fwd, (h4.out (hl.back (by decide))).2⟩⟩, ⟨fun hl => ⟨(h5.out (hl.back (by decide))).1.fwd, (h5.out (hl.back (by decide))).2⟩⟩, ⟨fun hl => ⟨(h6.out (hl.back (by decide))).1.fwd, (h6.out (hl.back (by decide))).2.1.fwd, (h6.out (hl.back (by decide))).2.2⟩⟩, ⟨fun _ => ⟨L5.fwd, e18.symm⟩⟩⟩
    exact StepsL.nil
  · intro l f W hR hall
    obtain ⟨hS, h0, h1, h2, h3, h4, h5, h6, h7⟩ := hR
    have q0 := h0.out (hall 0 (by decide))
    have q1 := h1.out (hall 1 (by decide))
    have q2 := h2.out (hall 2 (by decide))
    have q3 := h3.out (hall 3 (by decide))
    have q4 := h4.out (hall 4 (by decide))
    have q5 := h5.out (hall 5 (by decide))
    have q6 := h6.out (hall 6 (by decide))
    have q7 := h7.out (hall 7 (by decide))
    clear h0 h1 h2 h3 h4 h5 h6 h7
    obtain ⟨T3, G3, e2, hO3, hG3⟩ := q2
    obtain ⟨_, v4, e4⟩ := q4
    obtain ⟨_, v5, e5⟩ := q5
    have e17 := tuple2_fst (e2.symm.trans e4)
    have e18 := (tuple2_snd (e2.symm.trans e5)).symm
    obtain ⟨_, _, cs6, e6, hbb⟩ := q6
    rw [← e17] at e6
    injection e6 with e6
    subst e6
    have e3 := q7.2.trans e18
    have hwb := hwa.trans (hS.1.mono (by omega))
    have hsb := hS.1.size
    have hdb := hO3.read fun i b hb => hO3.lt i b hb
    simp only [putF, Act.put, List.setIfInBounds_toArray, List.set_cons_zero, List.set_cons_succ]
    simp only [e3]
    clear e2 e4 e5 e17 e18 e3
    clear q0 q1 q3 q7 hall hS hba hda hO3 hG3
    obtain ⟨Wb, rfl⟩ : ∃ X, X = W := ⟨_, rfl⟩
    obtain ⟨a0, n0, a1, n1, a2, n2, a3, n3, a4, n4, a5, n5⟩ := T3
    obtain ⟨b, o, ea, hI, k5, _, _, _⟩ := hdb.s5.at_ev (i := 0) (by decide)
    dsimp only at ea
    subst ea
    simp only [show begO.jobs.length = 0 from rfl, show begO.released.length = 1 from rfl, show begO.next = 0 from rfl, show begO.ins.length = 0 from rfl, show begO.taken.length = 0 from rfl, show begO.outs.length = 0 from rfl, show begO.events.length = 1 from rfl] at hbb
    rw [show (nth begO.events 0).t = 100 from rfl, Nat.zero_mul, Nat.add_zero] at k5
    have hbl : b < Wb.heap.size := hI
    obtain ⟨cb, fb, zb⟩ := blk hbb
    have hbbh := Lib.hid hbb
    replace hdb := Lib.hid hdb
    clear hI
    go_wp2_with fail
    go_region_held3 (fun w' => (∀ oo, w'.cell? ⟨w6.heap.size, oo, none⟩ = #[.slice a0 0 n0, .slice a1 1 n1, .int .i64 0, .slice a2 0 n2, .slice a3 0 n3, .slice a4 0 n4, .slice (some ⟨b, o, none⟩) 1 n5][oo]?) ∧ w'.cell? ⟨b, o, none⟩ = some (.int .i64 100)) (((try dsimp only); (repeat' apply And.intro) <;> (first | exact fun oo => (Below.cell (B := Wb.heap.size) (w := Wb) byB (by first | assumption | omega)).trans (cb oo) | exact (Below.cell (B := Wb.heap.size) (w := Wb) byB (by first | assumption | omega)).trans (by assumption) | go_keep | (simp [go_sem, *]; done))))
      (first | (go_at_call 49; refine (H0.out _).mono ?_; rintro e w8 ⟨S8, rfl, hs8, hb_w8⟩; refine have_then (P := Below w.heap.size w w8) byB (fun h_w8 => ?_); have s_w8 := Below.size h_w8; have t_w8 := Below.size hb_w8; (try simp at t_w8); revert hb_w8; intro hb_w8) | (go_at_call 21; refine (H3.out S8 _ 1 _ ?_ ?_).mono ?_; exact (hs8.keepI byI).rng byS; (with_reducible refine sl_begO (a0 := a0) (a1 := a1) (a2 := a2) (a3 := a3) (a4 := a4) (a5 := some ⟨b, o, none⟩) (n0 := n0) (n1 := n1) (n2 := n2) (n3 := n3) (n4 := n4) (n5 := n5) (t := 45) ?_ ?_ ?_); (first | exact byN | exact (hb_w8.block _ byS).trans byN); exact (hdb.out.next (Nat.le_refl _) byB).up byS; exact byS; rintro e w9 ⟨A9, n9, rfl, hO9, hb9⟩; have h9b : Below Wb.heap.size Wb w9 := byB; have k9 := (h9b.cell (p := ⟨b, o, none⟩) hbl).trans k5; obtain ⟨cb9, fb9, zb9⟩ := blk ((h9b.block _ zb).trans hbbh.out); clear hO9))
    all_goals
      go_wp2_with fail
      go_ret
      exact ⟨rfl, hwb.trans (h9b.mono hwb.size)⟩
end Go.Proofs.Ytinlmkhlgclbfab
