/-
  OpenWay: what came in and reads as a api.Way. (Printed by wip/tools/open.py.)
-/
import Derived.Test.YtinlmkhlgclbfaaOpenA
namespace Go.Proofs.Ytinlmkhlgclbfaa
open Go.ChangeShapes Go.WideShapes Go.ChangeAt Go.RowKit Go.Deep
set_option maxRecDepth 100000

def okWay (x : TWay) : Prop := okInt x.line
theorem opens_way : Opens Try.prog cWay okWay 115 :=
  (opens_struct (S := TWay) (e := (cInt.pair cBool)) (ok' := okWay) (fun x => (x.line, x.dirty)) (fun y => ⟨y.1, y.2⟩) (fun y => rfl) Try.underlying115 (by kernel_rfl) (opensF_cons opens_int3 (opensF_one opens_bool4) rfl) (fun y h => by
    simp only [okWay]
    try simp only [okAny, true_and, and_true] at h
    exact h)).conv rfl (fun I w cs x h => by
    simp only [Cod.via, Cod.pair, cInt, cBool, Cod.flat] at h
    obtain ⟨_, _, rfl, rfl, rfl⟩ := h
    rfl)
end Go.Proofs.Ytinlmkhlgclbfaa
