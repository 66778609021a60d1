/-
  OpenTask: what came in and reads as a api.Task. (Printed by wip/tools/open.py.)
-/
import Derived.Test.YtinlmkhlgclbfaaOpenA
namespace Go.Proofs.Ytinlmkhlgclbfaa
open Go.ChangeShapes Go.WideShapes Go.ChangeAt Go.RowKit Go.Deep
set_option maxRecDepth 100000

def okTask (x : TTask) : Prop := okInt x.dom ∧ okInt x.period ∧ okInt x.budget ∧ okInt x.dead
theorem opens_task : Opens Try.prog cTask okTask 108 :=
  (opens_struct (S := TTask) (e := (cInt.pair (cInt.pair (cInt.pair cInt)))) (ok' := okTask) (fun x => (x.dom, x.period, x.budget, x.dead)) (fun y => ⟨y.1, y.2.1, y.2.2.1, y.2.2.2⟩) (fun y => rfl) Try.underlying108 (by kernel_rfl) (opensF_cons opens_int3 (opensF_cons opens_int3 (opensF_cons opens_int3 (opensF_one opens_int3) rfl) rfl) rfl) (fun y h => by
    simp only [okTask]
    try simp only [okAny, true_and, and_true] at h
    exact h)).conv rfl (fun I w cs x h => by
    simp only [Cod.via, Cod.pair, cInt, cBool, Cod.flat] at h
    obtain ⟨_, _, rfl, rfl, ⟨_, _, rfl, rfl, ⟨_, _, rfl, rfl, rfl⟩⟩⟩ := h
    rfl)
end Go.Proofs.Ytinlmkhlgclbfaa
