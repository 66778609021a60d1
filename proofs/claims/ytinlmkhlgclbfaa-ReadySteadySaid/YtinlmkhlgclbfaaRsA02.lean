/- LawReadySteady -/
import Derived.Test.YtinlmkhlgclbfaaRsA01
import Derived.Test.YtinlmkhlgclbfaaRtA49
import Derived.Test.YtinlmkhlgclbfaaRows
import Derived.WalkKit
import Derived.OpenShut
import Derived.ShutString
import Derived.ChangeOld
import Derived.Below
namespace Go.Proofs.Ytinlmkhlgclbfaa
open Go.ChangeShapes Go.WideShapes Go.ChangeAt Go.RowKit Go.Deep
set_option maxRecDepth 100000

theorem ReadySteady.room {d : TDom} (h : okDom d) : DomSz d ∧ d.events.length + 128 ≤ 4398046511104 := by
  obtain ⟨⟨a0, -⟩, ⟨a1, -⟩, -, ⟨a2, b2⟩, ⟨a3, -⟩, ⟨a4, b4⟩, ⟨a5, -⟩⟩ := h
  have hr : reachBytes = 140737488351232 := by kernel_rfl
  rw [hr] at a0 a1 a2 a3 a4 a5
  refine ⟨⟨by omega, by omega, by omega, fun i hi => ?_, by omega, by omega, fun i hi => ?_, by omega⟩, by omega⟩
  · have m : nth d.ins i ∈ d.ins := by rw [nth_eq hi]; exact List.getElem_mem hi
    have := (b2 _ m).1.1
    omega
  · have m : nth d.outs i ∈ d.outs := by rw [nth_eq hi]; exact List.getElem_mem hi
    have := (b4 _ m).1
    omega

theorem ReadySteady.own : ownKnob Try.prog.godebug = none := by kernel_rfl
theorem ReadySteady.laidOut : laidOutB Try.prog = true := by kernel_rfl

theorem ReadySteady.lifted (os : Os) (started : os.Started) (H : Type) (enc : TypeId × Value → H) :
    ReturnsInHanded {} Try.checked os 12 .any (Rows.readySteadySpec.pre6 enc Try.prog Try.f12 Rows.readySteadyRow.domain false) (Rows.readySteadySpec.post enc Try.prog Try.f12 false true false false) := by
  refine returnsInHanded_of_change_sized (C := Try.checked) ReadySteady.own started (by kernel_rfl) Try.func12
    (ChangeSpec.witness6 (enc := enc) (C := Try.checked) false ⟨#[], #[.agg #[.int .i64 0, .int .i64 0, .int .i64 0, .int .i64 0, .int .i64 0, .slice none 0 0, .slice none 0 0, .slice none 0 0, .slice none 0 0], .int .i64 0, .agg #[.slice none 0 0, .slice none 0 0, .int .i64 0, .slice none 0 0, .slice none 0 0, .slice none 0 0, .slice none 0 0], .int .i64 0], []⟩ 8 (by kernel_rfl) (by kernel_rfl) (by kernel_rfl) (by kernel_rfl)) ?_
  intro W base args ds gs before hval0 hW hcnd hsz0 _
  have hval : ∀ (j : Nat) t v, Try.f12.params[j]? = some t → args[j]? = some v → Value.okWide Try.prog W .any base t v := hval0
  have hW' := hW
  obtain ⟨p, q, hA0, hV, rfl, hfz, hnd⟩ := hW
  have hA : DataW.TrodAll enc Try.prog W 0 (fun _ => true) true Try.f12.params.toList args.toList ds p := hA0
  have hsz : (DataW.weightsEach Try.prog (Try.f12.params.toList ++ []) (ds ++ gs)).all (· ≤ reachBytes) = true := hsz0
  rw [Try.params12] at hA hval hsz
  obtain ⟨v0, vs0, d0, ds0, p0, q0, hargs, rfl, rfl, h0, r0⟩ := trodAll_cons hA
  obtain ⟨v1, vs1, d1, ds1, p1, q1, rfl, rfl, rfl, h1, r1⟩ := trodAll_cons r0
  obtain ⟨v2, vs2, d2, ds2, p2, q2, rfl, rfl, rfl, h2, r2⟩ := trodAll_cons r1
  obtain ⟨v3, vs3, d3, ds3, p3, q3, rfl, rfl, rfl, h3, r3⟩ := trodAll_cons r2
  obtain ⟨rfl, rfl, rfl⟩ := trodAll_nil r3
  obtain rfl : args = #[v0, v1, v2, v3] := by cases args; simp_all
  obtain ⟨rfl, rfl⟩ := trodVars_none hV
  simp only [List.append_nil, DataW.weightsEach, List.all_append, Bool.and_eq_true] at hsz
  obtain ⟨z0, z1, z2, z3⟩ := hsz
  have lt0 : ∀ x ∈ p0, x.block < W.heap.size := by obtain ⟨m, hm⟩ := h0; exact DataW.trod_lt m _ _ _ hm
  have lt1 : ∀ x ∈ p1, x.block < W.heap.size := by obtain ⟨m, hm⟩ := h1; exact DataW.trod_lt m _ _ _ hm
  have lt2 : ∀ x ∈ p2, x.block < W.heap.size := by obtain ⟨m, hm⟩ := h2; exact DataW.trod_lt m _ _ _ hm
  have lt3 : ∀ x ∈ p3, x.block < W.heap.size := by obtain ⟨m, hm⟩ := h3; exact DataW.trod_lt m _ _ _ hm
  have kk0 := h0
  have kk1 := h1
  have kk2 := h2
  have kk3 := h3
  obtain ⟨y0, e0, k0⟩ := opens_arg opens_cfg h0 z0
  obtain ⟨c0, rfl, _⟩ := okWide_struct Try.underlying63 (hval 0 63 v0 rfl rfl)
  obtain ⟨S0, he0, s0⟩ := e0
  obtain rfl : c0 = (TCfg.cells y0 S0).toArray := by cases c0; simpa [Value.cells] using he0
  obtain ⟨a1, rfl, rfl, rfl, _⟩ := open_int Try.underlying3 (hval 1 3 v1 rfl rfl) h1
  obtain ⟨y2, e2, k2⟩ := opens_arg opens_dom h2 z2
  obtain ⟨c2, rfl, _⟩ := okWide_struct Try.underlying90 (hval 2 90 v2 rfl rfl)
  obtain ⟨S2, he2, s2⟩ := e2
  obtain rfl : c2 = (TDom.cells y2 S2).toArray := by cases c2; simpa [Value.cells] using he2
  obtain ⟨sz2, ev2⟩ := ReadySteady.room k2
  obtain ⟨a3, rfl, rfl, rfl, _⟩ := open_int Try.underlying3 (hval 3 3 v3 rfl rfl) h3
  refine (lawReadySteady y0 S0 a1 y2 S2 a3 sz2 (by omega) W.heap.size W (Nat.le_refl _) s0 s2).mono fun e W' ⟨he, bel⟩ => ?_
  subst he
  exact ⟨_, rfl, _, _, _, [], _, [], hW', trodAll_mk1 (shut_bool Try.underlying4 _), (trodAll_cons_mk (Below.trod ReadySteady.laidOut (by kernel_rfl) (of_decide_eq_true (by kernel_rfl)) kk0 bel lt0) (trodAll_cons_mk (Below.trod ReadySteady.laidOut (by kernel_rfl) (of_decide_eq_true (by kernel_rfl)) kk1 bel lt1) (trodAll_cons_mk (Below.trod ReadySteady.laidOut (by kernel_rfl) (of_decide_eq_true (by kernel_rfl)) kk2 bel lt2) (trodAll_cons_mk (Below.trod ReadySteady.laidOut (by kernel_rfl) (of_decide_eq_true (by kernel_rfl)) kk3 bel lt3) trodAll_mk0)))), rfl, bel.frame _, fun h => by cases h⟩

theorem readySteady_holds : Rows.ReadySteadySaid :=
  OpenClaim.holds_of_wide 12 Try.f12 rfl rfl rfl rfl rfl rfl rfl ⟨rfl, rfl, rfl, rfl, rfl⟩ rfl rfl rfl rfl rfl (by kernel_rfl) Try.func12 (by kernel_rfl)
    (of_decide_eq_true (by kernel_rfl)) (by unfold Func.isWrapper; first | (rw [if_pos (by decide +kernel)]; kernel_rfl) | (rw [if_neg (by decide +kernel)]; exact ⟨rfl, rfl⟩))
    (fun os started H enc _ => ReadySteady.lifted os started H enc)
#print axioms readySteady_holds
end Go.Proofs.Ytinlmkhlgclbfaa
