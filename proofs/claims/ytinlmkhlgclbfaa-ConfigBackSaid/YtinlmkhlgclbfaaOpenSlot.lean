/-
  OpenSlot: what came in and reads as a api.Slot. (Printed by wip/tools/open.py.)
-/
import Derived.Test.YtinlmkhlgclbfaaOpenA
namespace Go.Proofs.Ytinlmkhlgclbfaa
open Go.ChangeShapes Go.WideShapes Go.ChangeAt Go.RowKit Go.Deep
set_option maxRecDepth 100000

def okSlot (x : TSlot) : Prop := okInt x.dom ∧ okInt x.len
theorem opens_slot : Opens Try.prog cSlot okSlot 121 :=
  (opens_struct (S := TSlot) (e := (cInt.pair cInt)) (ok' := okSlot) (fun x => (x.dom, x.len)) (fun y => ⟨y.1, y.2⟩) (fun y => rfl) Try.underlying121 (by kernel_rfl) (opensF_cons opens_int3 (opensF_one opens_int3) rfl) (fun y h => by
    simp only [okSlot]
    try simp only [okAny, true_and, and_true] at h
    exact h)).conv rfl (fun I w cs x h => by
    simp only [Cod.via, Cod.pair, cInt, cBool, Cod.flat] at h
    obtain ⟨_, _, rfl, rfl, rfl⟩ := h
    rfl)
end Go.Proofs.Ytinlmkhlgclbfaa
