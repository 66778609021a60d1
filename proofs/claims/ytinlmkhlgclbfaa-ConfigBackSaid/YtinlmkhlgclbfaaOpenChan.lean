/-
  OpenChan: what came in and reads as a api.Channel. (Printed by wip/tools/open.py.)
-/
import Derived.Test.YtinlmkhlgclbfaaOpenA
namespace Go.Proofs.Ytinlmkhlgclbfaa
open Go.ChangeShapes Go.WideShapes Go.ChangeAt Go.RowKit Go.Deep
set_option maxRecDepth 100000

def okChan (x : TChan) : Prop := okInt x.src ∧ okInt x.dst ∧ okInt x.size
theorem opens_chan : Opens Try.prog cChan okChan 123 :=
  (opens_struct (S := TChan) (e := (cInt.pair (cInt.pair cInt))) (ok' := okChan) (fun x => (x.src, x.dst, x.size)) (fun y => ⟨y.1, y.2.1, y.2.2⟩) (fun y => rfl) Try.underlying123 (by kernel_rfl) (opensF_cons opens_int3 (opensF_cons opens_int3 (opensF_one opens_int3) rfl) rfl) (fun y h => by
    simp only [okChan]
    try simp only [okAny, true_and, and_true] at h
    exact h)).conv rfl (fun I w cs x h => by
    simp only [Cod.via, Cod.pair, cInt, cBool, Cod.flat] at h
    obtain ⟨_, _, rfl, rfl, ⟨_, _, rfl, rfl, rfl⟩⟩ := h
    rfl)
end Go.Proofs.Ytinlmkhlgclbfaa
