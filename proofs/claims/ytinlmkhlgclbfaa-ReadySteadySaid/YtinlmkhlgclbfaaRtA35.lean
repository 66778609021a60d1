/- RdRel NeqJob NeqEv -/
import Derived.Test.YtinlmkhlgclbfaaRtA04
import Derived.Test.YtinlmkhlgclbfaaRtA30
import Derived.Test.YtinlmkhlgclbfaaRtA34
import Derived.Test.YtinlmkhlgclbfaaProg
import Derived.Laws.StructEq
section
namespace Go.Proofs.Ytinlmkhlgclbfaa
open Go.RowKit
set_option maxRecDepth 100000
set_option maxHeartbeats 4000000

def relErr (c : TCfg) (dom : Int) (d : TDom) (now : Int) : Int := if checkBoth c dom d ≠ 0 then checkBoth c dom d else if inB 0 now 100000 then 0 else 3
def relOf (c : TCfg) (dom : Int) (d : TDom) (now : Int) : TDom := if relErr c dom d now = 0 then releaseOf c dom now d else noDom

theorem readyRelease (c : TCfg) (S : TCfgS) (dom : Int) (d : TDom) (T : TDomS) (now : Int) (hz : DomSz d) (hev : d.events.length + 40 ≤ 4398046511104) (B : Nat) (w : World) (hB : B ≤ w.heap.size) (hs : TCfg.At (Low B) w c S) (hd : TDom.At (Low B) w d T) :
    Calls Try.prog 49 #[.agg #[.int .i64 c.sets, .int .i64 c.ways, .int .i64 c.doms, .int .i64 c.pad, .int .i64 c.quantum, .slice S.a0 c.slots.length S.n0, .slice S.a1 c.owners.length S.n1, .slice S.a2 c.chans.length S.n2, .slice S.a3 c.tasks.length S.n3], .int .i64 dom, .agg #[.slice T.a0 d.jobs.length T.n0, .slice T.a1 d.released.length T.n1, .int .i64 d.next, .slice T.a2 d.ins.length T.n2, .slice T.a3 d.taken.length T.n3, .slice T.a4 d.outs.length T.n4, .slice T.a5 d.events.length T.n5], .int .i64 now] w (RetDomE (relOf c dom d now) (relErr c dom d now) w) := by
  have H1 := Lib.hid (fun W (h : Below w.heap.size w W) => readyKeeper c S dom d T hz B W (Nat.le_trans hB h.size) (hs.next hB h) (hd.next hB h))
  have H2 := Lib.hid (fun W => readyWithin now 0 100000 W)
  by_cases e1 : checkBoth c dom d = 0
  · obtain ⟨hc, hdo⟩ := checkBoth_ok e1
    generalize e2 : inB 0 now 100000 = b2 at *
    cases b2
    · go_enter Try.func49, Try.ntmps49
      go_wp2_with (first | (go_at_call 95; refine (H1.out _ byB).mono ?_; rintro e w2 (⟨e3, rfl, hb2⟩ | ⟨gk, G2, T2, e3, rfl, hK, hgk, hG2, hb2⟩); exact absurd e1 e3; have s2 := hb2.size; (try simp at s2); have hbz : w2.heap[w.heap.size + 2]? = some (.cells #[.slice none 0 0, .slice none 0 0, .int .i64 0, .slice none 0 0, .slice none 0 0, .slice none 0 0, .slice none 0 0] 90) := (hb2.block _ byS).trans (by exact byH); obtain ⟨cz, fz, zz⟩ := blk hbz; have hbw2 : Below w.heap.size w w2 := byB) | (go_at_call 96; refine (H2.out _).mono ?_; rintro e w3 ⟨rfl, rfl⟩))
      obtain ⟨cr, fr, zr⟩ := blk (dom_set (u0 := .slice none 0 0) (u1 := .slice none 0 0) (u2 := .int .i64 0) (u3 := .slice none 0 0) (u4 := .slice none 0 0) (u5 := .slice none 0 0) (u6 := .slice none 0 0) hbz)
      refine bodyPost_ret (v := .tuple #[.agg #[.slice none 0 0, .slice none 0 0, .int .i64 0, .slice none 0 0, .slice none 0 0, .slice none 0 0, .slice none 0 0], .int .i64 3]) (by simp [results, Try.results49, go_sem, *]) rfl ?_
      have er : relErr c dom d now = 3 := by simp [relErr, e1, e2]
      rw [er, show relOf c dom d now = noDom from by unfold relOf; rw [er]; exact if_neg (by decide)]
      exact ⟨noDomS, fun _ _ => False, rfl, noDom_own _, fun _ _ h => h.elim, dom_below hbw2 (by omega)⟩
    · have hn := inB_true.1 e2
      go_enter Try.func49, Try.ntmps49
      go_wp2_with (first | (go_at_call 95; refine (H1.out _ byB).mono ?_; rintro e w2 (⟨e3, rfl, hb2⟩ | ⟨gk, G2, T2, e3, rfl, hK, hgk, hG2, hb2⟩); exact absurd e1 e3; have s2 := hb2.size; (try simp at s2); (try simp at hgk); have hbz : w2.heap[w.heap.size + 2]? = some (.cells #[.slice none 0 0, .slice none 0 0, .int .i64 0, .slice none 0 0, .slice none 0 0, .slice none 0 0, .slice none 0 0] 90) := (hb2.block _ byS).trans (by exact byH); obtain ⟨cz, fz, zz⟩ := blk hbz; have hbw2 : Below w.heap.size w w2 := byB) | (go_at_call 96; refine (H2.out _).mono ?_; rintro e w3 ⟨rfl, rfl⟩) | (go_at_call 97; refine (keeperCome gk G2 B _ c S dom now d T2 hK hc hdo hn hev).mono ?_; rintro e w4 ⟨G4, T4, rfl, hK4, hE4⟩; have hbz4 : w4.heap[w.heap.size + 2]? = some (.cells #[.slice none 0 0, .slice none 0 0, .int .i64 0, .slice none 0 0, .slice none 0 0, .slice none 0 0, .slice none 0 0] 90) := (hE4.keep _ zz (by omega) (fun i h => by have := hG2 i _ h; simp at this; omega)).trans hbz; obtain ⟨cz4, fz4, zz4⟩ := blk hbz4; obtain ⟨ck, fk, zk⟩ := blk hK4.blk))
      have hlt4 : ∀ i b, G4 i b → w.heap.size + 3 ≤ b := fun i b hb => by
        rcases hE4.grow i b hb with h | h
        · have := hG2 i b h; simp at this; omega
        · omega
      obtain ⟨cr, fr, zr⟩ := blk (dom_set (u0 := .slice T4.a0 (releaseOf c dom now d).jobs.length T4.n0) (u1 := .slice T4.a1 (releaseOf c dom now d).released.length T4.n1) (u2 := .int .i64 (releaseOf c dom now d).next) (u3 := .slice T4.a2 (releaseOf c dom now d).ins.length T4.n2) (u4 := .slice T4.a3 (releaseOf c dom now d).taken.length T4.n3) (u5 := .slice T4.a4 (releaseOf c dom now d).outs.length T4.n4) (u6 := .slice T4.a5 (releaseOf c dom now d).events.length T4.n5) hbz4)
      refine bodyPost_ret (v := .tuple #[.agg #[.slice T4.a0 (releaseOf c dom now d).jobs.length T4.n0, .slice T4.a1 (releaseOf c dom now d).released.length T4.n1, .int .i64 (releaseOf c dom now d).next, .slice T4.a2 (releaseOf c dom now d).ins.length T4.n2, .slice T4.a3 (releaseOf c dom now d).taken.length T4.n3, .slice T4.a4 (releaseOf c dom now d).outs.length T4.n4, .slice T4.a5 (releaseOf c dom now d).events.length T4.n5], .int .i64 0]) (by simp [results, Try.results49, go_sem, *]) rfl ?_
      have er : relErr c dom d now = 0 := by simp [relErr, e1, e2]
      rw [er, show relOf c dom d now = releaseOf c dom now d from by unfold relOf; exact if_pos er]
      exact ⟨T4, G4, rfl, hK4.dom.keep (fun i b hb => dom_far (by have := hlt4 i b hb; omega)) (by simp), fun i b hb => by have := hlt4 i b hb; omega, dom_below (Below.trans hbw2 ⟨hE4.below.os, hE4.below.tape, hE4.below.output, hE4.below.size, fun b hb => hE4.keep b (by omega) (by omega) (fun i h => by have := hG2 i b h; simp at this; omega)⟩) (by omega)⟩
  · go_enter Try.func49, Try.ntmps49
    go_wp2_with (go_at_call 95; refine (H1.out _ byB).mono ?_; rintro e w2 (⟨e3, rfl, hb2⟩ | ⟨gk, G2, T2, e3, rfl, hK, hgk, hG2, hb2⟩); rotate_left; exact absurd e3 e1; have s2 := hb2.size; (try simp at s2); have hbz : w2.heap[w.heap.size + 2]? = some (.cells #[.slice none 0 0, .slice none 0 0, .int .i64 0, .slice none 0 0, .slice none 0 0, .slice none 0 0, .slice none 0 0] 90) := (hb2.block _ byS).trans (by exact byH); obtain ⟨cz, fz, zz⟩ := blk hbz; have hbw2 : Below w.heap.size w w2 := byB)
    obtain ⟨cr, fr, zr⟩ := blk (dom_set (u0 := .slice none 0 0) (u1 := .slice none 0 0) (u2 := .int .i64 0) (u3 := .slice none 0 0) (u4 := .slice none 0 0) (u5 := .slice none 0 0) (u6 := .slice none 0 0) hbz)
    refine bodyPost_ret (v := .tuple #[.agg #[.slice none 0 0, .slice none 0 0, .int .i64 0, .slice none 0 0, .slice none 0 0, .slice none 0 0, .slice none 0 0], .int .i64 (checkBoth c dom d)]) (by simp [results, Try.results49, go_sem, *]) rfl ?_
    have er : relErr c dom d now = checkBoth c dom d := by simp [relErr, e1]
    rw [er, show relOf c dom d now = noDom from by unfold relOf; rw [er]; exact if_neg e1]
    exact ⟨noDomS, fun _ _ => False, rfl, noDom_own _, fun _ _ h => h.elim, dom_below hbw2 (by omega)⟩

theorem readyDue (c : TCfg) (S : TCfgS) (dom : Int) (d : TDom) (T : TDomS) (hz : DomSz d) (B : Nat) (w : World) (hB : B ≤ w.heap.size) (hs : TCfg.At (Low B) w c S) (hd : TDom.At (Low B) w d T) :
    Calls Try.prog 51 #[.agg #[.int .i64 c.sets, .int .i64 c.ways, .int .i64 c.doms, .int .i64 c.pad, .int .i64 c.quantum, .slice S.a0 c.slots.length S.n0, .slice S.a1 c.owners.length S.n1, .slice S.a2 c.chans.length S.n2, .slice S.a3 c.tasks.length S.n3], .int .i64 dom, .agg #[.slice T.a0 d.jobs.length T.n0, .slice T.a1 d.released.length T.n1, .int .i64 d.next, .slice T.a2 d.ins.length T.n2, .slice T.a3 d.taken.length T.n3, .slice T.a4 d.outs.length T.n4, .slice T.a5 d.events.length T.n5]] w fun e w' => e = .returned (.tuple #[.int .i64 (if checkBoth c dom d = 0 then dueOf c dom d else 0), .int .i64 (checkBoth c dom d)]) ∧ Below w.heap.size w w' := by
  have H1 := Lib.hid (fun W (h : Below w.heap.size w W) => readyKeeper c S dom d T hz B W (Nat.le_trans hB h.size) (hs.next hB h) (hd.next hB h))
  go_enter Try.func51, Try.ntmps51
  go_wp2_with (first | (go_at_call 95; refine (H1.out _ byB).mono ?_; rintro e w2 (⟨e1, rfl, hb2⟩ | ⟨gk, G2, T2, e1, rfl, hK, hgk, hG2, hb2⟩)) | (go_at_call 99; refine (keeperSoon gk G2 B _ c S dom d T2 hK (checkBoth_ok e1).1 (checkBoth_ok e1).2).mono ?_; rintro e w3 ⟨rfl, hb3⟩))
  · refine bodyPost_ret (v := .tuple #[.int .i64 0, .int .i64 (checkBoth c dom d)]) (by simp [results, Try.results51, go_sem, *]) rfl ?_
    exact ⟨rfl, byB⟩
  · refine bodyPost_ret (v := .tuple #[.int .i64 (dueOf c dom d), .int .i64 0]) (by simp [results, Try.results51, go_sem, *]) rfl ?_
    have B1 : Below w.heap.size w w2 := byB
    exact ⟨rfl, B1.trans (hb3.mono B1.size)⟩
end Go.Proofs.Ytinlmkhlgclbfaa
end

section
namespace Go.Proofs.Ytinlmkhlgclbfaa
open Go.RowKit
set_option maxRecDepth 100000
set_option maxHeartbeats 400000

theorem neqJob (x y : TJob) (w : World) : (binOp .neq 106 (.agg #[.int .i64 x.task, .int .i64 x.number, .int .i64 x.released, .int .i64 x.used, .bool x.ran, .bool x.missed]) (.agg #[.int .i64 y.task, .int .i64 y.number, .int .i64 y.released, .int .i64 y.used, .bool y.ran, .bool y.missed])).run Try.prog w = .ok (.bool (diffT x y)) w := by
  have hf := congrArg (fun u : Option TypeDesc => match u with | some (.struct fs) => fs | _ => #[]) Try.underlying106
  change Try.prog.fieldsOf 106 = _ at hf
  simp only at hf
  rw [run_neq_struct, run_equalIn_agg _ _ _ _ _ (by rw [hf]; exact Try.underlying106) (by kernel_rfl), hf]
  have u1 := Try.underlying3
  have u2 := Try.underlying4
  have hd : diffT x y = !(x.task == y.task && x.number == y.number && x.released == y.released && x.used == y.used && x.ran == y.ran && x.missed == y.missed) := by
    unfold diffT
    congr 1
    rw [Bool.eq_iff_iff]
    cases x; cases y; simp [and_assoc]
  rw [hd]
  clear hd
  simp [Op.eqFields, go_sem, *]
  (repeat' split) <;> simp_all
theorem guardJob : Try.prog.eqGuardType Try.prog.depth 106 = false := by kernel_rfl
end Go.Proofs.Ytinlmkhlgclbfaa
end

section
namespace Go.Proofs.Ytinlmkhlgclbfaa
open Go.RowKit
set_option maxRecDepth 100000
set_option maxHeartbeats 400000

theorem neqEv (x y : TEv) (w : World) : (binOp .neq 144 (.agg #[.int .i64 x.t, .int .i64 x.kind, .int .i64 x.a, .int .i64 x.b]) (.agg #[.int .i64 y.t, .int .i64 y.kind, .int .i64 y.a, .int .i64 y.b])).run Try.prog w = .ok (.bool (diffT x y)) w := by
  have hf := congrArg (fun u : Option TypeDesc => match u with | some (.struct fs) => fs | _ => #[]) Try.underlying144
  change Try.prog.fieldsOf 144 = _ at hf
  simp only at hf
  rw [run_neq_struct, run_equalIn_agg _ _ _ _ _ (by rw [hf]; exact Try.underlying144) (by kernel_rfl), hf]
  have u1 := Try.underlying3
  have u2 := Try.underlying4
  have hd : diffT x y = !(x.t == y.t && x.kind == y.kind && x.a == y.a && x.b == y.b) := by
    unfold diffT
    congr 1
    rw [Bool.eq_iff_iff]
    cases x; cases y; simp [and_assoc]
  rw [hd]
  clear hd
  simp [Op.eqFields, go_sem, *]
  (repeat' split) <;> simp_all
theorem guardEv : Try.prog.eqGuardType Try.prog.depth 144 = false := by kernel_rfl
end Go.Proofs.Ytinlmkhlgclbfaa
end
