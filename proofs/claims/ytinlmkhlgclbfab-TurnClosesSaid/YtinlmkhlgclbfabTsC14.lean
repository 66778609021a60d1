/- LawTurnCloses -/
import Derived.Test.YtinlmkhlgclbfabTsC08
import Derived.Test.YtinlmkhlgclbfabTsC13
import Derived.Test.YtinlmkhlgclbfabTsA39
import Derived.Test.YtinlmkhlgclbfabRows
import Derived.WalkKit
import Derived.OpenShut
import Derived.ShutString
import Derived.ChangeOld
import Derived.Below
namespace Go.Proofs.Ytinlmkhlgclbfab
open Go.ChangeShapes Go.WideShapes Go.ChangeAt Go.RowKit Go.Deep
set_option maxRecDepth 100000

theorem TurnCloses.room {d : TDom} (h : okDom d) : DomSz d ∧ d.events.length + 128 ≤ 4398046511104 := by
  obtain ⟨⟨a0, -⟩, ⟨a1, -⟩, -, ⟨a2, b2⟩, ⟨a3, -⟩, ⟨a4, b4⟩, ⟨a5, -⟩⟩ := h
  have hr : reachBytes = 140737488351232 := by kernel_rfl
  rw [hr] at a0 a1 a2 a3 a4 a5
  refine ⟨⟨by omega, by omega, by omega, fun i hi => ?_, by omega, by omega, fun i hi => ?_, by omega⟩, by omega⟩
  · have m : nth d.ins i ∈ d.ins := by rw [nth_eq hi]; exact List.getElem_mem hi
    have := (b2 _ m).1.1
    omega
  · have m : nth d.outs i ∈ d.outs := by rw [nth_eq hi]; exact List.getElem_mem hi
    have := (b4 _ m).1
    omega

theorem TurnCloses.own : ownKnob Try.prog.godebug = none := by kernel_rfl
theorem TurnCloses.laidOut : laidOutB Try.prog = true := by kernel_rfl

theorem TurnCloses.lifted (os : Os) (started : os.Started) (H : Type) (enc : TypeId × Value → H) :
    ReturnsInHanded {} Try.checked os 5 .any (Rows.turnClosesSpec.pre6 enc Try.prog Try.f5 Rows.turnClosesRow.domain false) (Rows.turnClosesSpec.post enc Try.prog Try.f5 false true false false) := by
  refine returnsInHanded_of_change_sized (C := Try.checked) TurnCloses.own started (by kernel_rfl) Try.func5
    (ChangeSpec.witness6 (enc := enc) (C := Try.checked) false ⟨#[], #[.agg #[.int .i64 0, .int .i64 0, .int .i64 0, .int .i64 0, .int .i64 0, .slice none 0 0, .slice none 0 0, .slice none 0 0, .slice none 0 0], .slice none 0 0, .int .i64 0], []⟩ 8 (by kernel_rfl) (by kernel_rfl) (by kernel_rfl) (by kernel_rfl)) ?_
  intro W base args ds gs before hval0 hW hcnd hsz0 _
  have hval : ∀ (j : Nat) t v, Try.f5.params[j]? = some t → args[j]? = some v → Value.okWide Try.prog W .any base t v := hval0
  have hW' := hW
  obtain ⟨p, q, hA0, hV, rfl, hfz, hnd⟩ := hW
  have hA : DataW.TrodAll enc Try.prog W 0 (fun _ => true) true Try.f5.params.toList args.toList ds p := hA0
  have hsz : (DataW.weightsEach Try.prog (Try.f5.params.toList ++ []) (ds ++ gs)).all (· ≤ reachBytes) = true := hsz0
  rw [Try.params5] at hA hval hsz
  obtain ⟨v0, vs0, d0, ds0, p0, q0, hargs, rfl, rfl, h0, r0⟩ := trodAll_cons hA
  obtain ⟨v1, vs1, d1, ds1, p1, q1, rfl, rfl, rfl, h1, r1⟩ := trodAll_cons r0
  obtain ⟨v2, vs2, d2, ds2, p2, q2, rfl, rfl, rfl, h2, r2⟩ := trodAll_cons r1
  obtain ⟨rfl, rfl, rfl⟩ := trodAll_nil r2
  obtain rfl : args = #[v0, v1, v2] := by cases args; simp_all
  obtain ⟨rfl, rfl⟩ := trodVars_none hV
  simp only [List.append_nil, DataW.weightsEach, List.all_append, Bool.and_eq_true] at hsz
  obtain ⟨z0, z1, z2⟩ := hsz
  have lt0 : ∀ x ∈ p0, x.block < W.heap.size := by obtain ⟨m, hm⟩ := h0; exact DataW.trod_lt m _ _ _ hm
  have lt1 : ∀ x ∈ p1, x.block < W.heap.size := by obtain ⟨m, hm⟩ := h1; exact DataW.trod_lt m _ _ _ hm
  have lt2 : ∀ x ∈ p2, x.block < W.heap.size := by obtain ⟨m, hm⟩ := h2; exact DataW.trod_lt m _ _ _ hm
  have kk0 := h0
  have kk1 := h1
  have kk2 := h2
  obtain ⟨y0, e0, k0⟩ := opens_arg opens_cfg h0 z0
  obtain ⟨c0, rfl, _⟩ := okWide_struct Try.underlying27 (hval 0 27 v0 rfl rfl)
  obtain ⟨S0, he0, s0⟩ := e0
  obtain rfl : c0 = (TCfg.cells y0 S0).toArray := by cases c0; simpa [Value.cells] using he0
  obtain ⟨y1, e1, k1⟩ := opens_arg opens_doms h1 z1
  obtain ⟨A1, l1, n1, rfl⟩ := okWide_slice Try.underlying55 (hval 1 55 v1 rfl rfl)
  obtain ⟨B1, m1, he1, s1⟩ := e1
  simp only [Value.cells, List.cons.injEq, Value.slice.injEq, and_true] at he1
  obtain ⟨rfl, rfl, rfl⟩ := he1
  obtain ⟨a2, rfl, rfl, rfl, _⟩ := open_int Try.underlying3 (hval 2 3 v2 rfl rfl) h2
  refine (lawTurnCloses y0 S0 y1 A1 n1 a2 (fun k hk => (TurnCloses.room (k1.2 _ (nth_mem hk))).1) (fun k hk => (TurnCloses.room (k1.2 _ (nth_mem hk))).2) W.heap.size W (Nat.le_refl _) s0 s1).mono fun e W' ⟨he, bel⟩ => ?_
  subst he
  exact ⟨_, rfl, _, _, _, [], _, [], hW', trodAll_mk1 (shut_bool Try.underlying4 _), (trodAll_cons_mk (Below.trod TurnCloses.laidOut (by kernel_rfl) (of_decide_eq_true (by kernel_rfl)) kk0 bel lt0) (trodAll_cons_mk (Below.trod TurnCloses.laidOut (by kernel_rfl) (of_decide_eq_true (by kernel_rfl)) kk1 bel lt1) (trodAll_cons_mk (Below.trod TurnCloses.laidOut (by kernel_rfl) (of_decide_eq_true (by kernel_rfl)) kk2 bel lt2) trodAll_mk0))), rfl, bel.frame _, fun h => by cases h⟩

theorem turnCloses_holds : Rows.TurnClosesSaid :=
  OpenClaim.holds_of_wide 5 Try.f5 rfl rfl rfl rfl rfl rfl rfl ⟨rfl, rfl, rfl, rfl, rfl⟩ rfl rfl rfl rfl rfl (by kernel_rfl) Try.func5 (by kernel_rfl)
    (of_decide_eq_true (by kernel_rfl)) (by unfold Func.isWrapper; first | (rw [if_pos (by decide +kernel)]; kernel_rfl) | (rw [if_neg (by decide +kernel)]; exact ⟨rfl, rfl⟩))
    (fun os started H enc _ => TurnCloses.lifted os started H enc)
#print axioms turnCloses_holds
end Go.Proofs.Ytinlmkhlgclbfab
