/-
  Proved: whatever ring, size and list of values it is handed, the law MailRings returns true, and what it was handed reads behind the call as before it (Rows.MailRingsSaid).
  Conditions: none beyond those that the statement itself bears (each slice that comes in takes at most the form's reach of bytes).
-/
import Derived.Test.YtinlmkhlgclbfaaMailJ
import Derived.Test.YtinlmkhlgclbfaaOpen
import Derived.Test.YtinlmkhlgclbfaaRows
import Derived.WalkKit
import Derived.OpenShut
import Derived.ShutString
import Derived.ChangeOld
import Derived.Below
namespace Go.Proofs.Ytinlmkhlgclbfaa
open Go.ChangeShapes Go.WideShapes Go.ChangeAt Go.RowKit Go.Deep
set_option maxRecDepth 100000

theorem opens_int3 : Opens Try.prog cInt okInt 3 := opens_int Try.underlying3 (by kernel_rfl)
theorem opens_ints : Opens Try.prog cInt.slice (okList okInt 8) 22 := opens_slice Try.underlying22 (by kernel_rfl) (by kernel_rfl) (by decide) opens_int3
theorem opens_ring : Opens Try.prog (Cod.via id (cInt.slice.pair cInt)) (fun y => okList okInt 8 y.1 ∧ okInt y.2) 24 :=
  opens_struct id id (fun _ => rfl) Try.underlying24 (by kernel_rfl) (opensF_cons opens_ints (opensF_one opens_int3) rfl) (fun _ h => h)

theorem MailRings.own : ownKnob Try.prog.godebug = none := by kernel_rfl
theorem MailRings.laidOut : laidOutB Try.prog = true := by kernel_rfl

theorem MailRings.lifted (os : Os) (started : os.Started) (H : Type) (enc : TypeId × Value → H) :
    ReturnsInHanded {} Try.checked os 3 .any (Rows.mailRingsSpec.pre6 enc Try.prog Try.f3 Rows.mailRingsRow.domain false) (Rows.mailRingsSpec.post enc Try.prog Try.f3 false true false false) := by
  refine returnsInHanded_of_change_sized (C := Try.checked) MailRings.own started (by kernel_rfl) Try.func3
    (ChangeSpec.witness6 (enc := enc) (C := Try.checked) false ⟨#[], #[.agg #[.slice none 0 0, .int .i64 0], .int .i64 0, .slice none 0 0], []⟩ 8 (by kernel_rfl) (by kernel_rfl) (by kernel_rfl) (by kernel_rfl)) ?_
  intro W base args ds gs before hval0 hW hcnd hsz0 _
  have hval : ∀ (j : Nat) t v, Try.f3.params[j]? = some t → args[j]? = some v → Value.okWide Try.prog W .any base t v := hval0
  have hW' := hW
  obtain ⟨p, q, hA0, hV, rfl, hfz, hnd⟩ := hW
  have hA : DataW.TrodAll enc Try.prog W 0 (fun _ => true) true Try.f3.params.toList args.toList ds p := hA0
  have hsz : (DataW.weightsEach Try.prog (Try.f3.params.toList ++ []) (ds ++ gs)).all (· ≤ reachBytes) = true := hsz0
  rw [Try.params3] at hA hval hsz
  obtain ⟨v0, vs0, d0, ds0, p0, q0, hargs, rfl, rfl, h0, r0⟩ := trodAll_cons hA
  obtain ⟨v1, vs1, d1, ds1, p1, q1, rfl, rfl, rfl, h1, r1⟩ := trodAll_cons r0
  obtain ⟨v2, vs2, d2, ds2, p2, q2, rfl, rfl, rfl, h2, r2⟩ := trodAll_cons r1
  obtain ⟨rfl, rfl, rfl⟩ := trodAll_nil r2
  obtain rfl : args = #[v0, v1, v2] := by cases args; simp_all
  obtain ⟨rfl, rfl⟩ := trodVars_none hV
  simp only [List.append_nil, DataW.weightsEach, List.all_append, Bool.and_eq_true] at hsz
  obtain ⟨z0, z1, z2⟩ := hsz
  have lt0 : ∀ x ∈ p0, x.block < W.heap.size := by obtain ⟨m, hm⟩ := h0; exact DataW.trod_lt m _ _ _ hm
  have lt1 : ∀ x ∈ p1, x.block < W.heap.size := by obtain ⟨m, hm⟩ := h1; exact DataW.trod_lt m _ _ _ hm
  have lt2 : ∀ x ∈ p2, x.block < W.heap.size := by obtain ⟨m, hm⟩ := h2; exact DataW.trod_lt m _ _ _ hm
  obtain ⟨y0, e0, k0⟩ := opens_arg opens_ring h0 z0
  obtain ⟨y1, e1, k1⟩ := opens_arg opens_int3 h1 z1
  obtain ⟨y2, e2, k2⟩ := opens_arg opens_ints h2 z2
  obtain ⟨c0, rfl, _⟩ := okWide_struct Try.underlying24 (hval 0 24 v0 rfl rfl)
  obtain ⟨a1, rfl, rfl, rfl, _⟩ := open_int Try.underlying3 (hval 1 3 v1 rfl rfl) h1
  obtain ⟨a2, l2, c2, rfl⟩ := okWide_slice Try.underlying22 (hval 2 22 v2 rfl rfl)
  have kk0 := h0
  have kk1 := h1
  have kk2 := h2
  obtain ⟨u0, u1, hu, ⟨A0, n0, rfl, s0⟩, rfl⟩ := e0
  obtain rfl : c0 = #[.slice A0 y0.1.length n0, .int .i64 y0.2] := by cases c0; simpa [Value.cells] using hu
  obtain ⟨A2, n2, he2, s2⟩ := e2
  simp only [Value.cells, List.cons.injEq, Value.slice.injEq, and_true] at he2
  obtain ⟨rfl, rfl, rfl⟩ := he2
  have hb2 := k2.1
  unfold reachBytes at hb2
  refine (lawMailRings y0.1 y2 y0.2 a1 A0 a2 n0 c2 W.heap.size W (Nat.le_refl _) s0 s2 (by omega)).mono fun e W' ⟨he, bel⟩ => ?_
  subst he
  exact ⟨_, rfl, _, _, _, [], _, [], hW', trodAll_mk1 (shut_bool Try.underlying4 _), (trodAll_cons_mk (Below.trod MailRings.laidOut (by kernel_rfl) (of_decide_eq_true (by kernel_rfl)) kk0 bel lt0) (trodAll_cons_mk (Below.trod MailRings.laidOut (by kernel_rfl) (of_decide_eq_true (by kernel_rfl)) kk1 bel lt1) (trodAll_cons_mk (Below.trod MailRings.laidOut (by kernel_rfl) (of_decide_eq_true (by kernel_rfl)) kk2 bel lt2) trodAll_mk0))), rfl, bel.frame _, fun h => by cases h⟩

theorem mailRings_holds : Rows.MailRingsSaid :=
  OpenClaim.holds_of_wide 3 Try.f3 rfl rfl rfl rfl rfl rfl rfl ⟨rfl, rfl, rfl, rfl, rfl⟩ rfl rfl rfl rfl rfl (by kernel_rfl) Try.func3 (by kernel_rfl)
    (of_decide_eq_true (by kernel_rfl)) (by unfold Func.isWrapper; first | (rw [if_pos (by decide +kernel)]; kernel_rfl) | (rw [if_neg (by decide +kernel)]; exact ⟨rfl, rfl⟩))
    (fun os started H enc _ => MailRings.lifted os started H enc)
#print axioms mailRings_holds
end Go.Proofs.Ytinlmkhlgclbfaa
