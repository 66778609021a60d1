/- OpenEv -/
import Derived.Test.YtinlmkhlgclbfabTsA39
namespace Go.Proofs.Ytinlmkhlgclbfab
open Go.ChangeShapes Go.WideShapes Go.ChangeAt Go.RowKit Go.Deep
set_option maxRecDepth 100000

def okEv (x : TEv) : Prop := okInt x.t ∧ okInt x.kind ∧ okInt x.a ∧ okInt x.b
theorem opens_ev : Opens Try.prog cEv okEv 84 :=
  (opens_struct (S := TEv) (e := (cInt.pair (cInt.pair (cInt.pair cInt)))) (ok' := okEv) (fun x => (x.t, x.kind, x.a, x.b)) (fun y => ⟨y.1, y.2.1, y.2.2.1, y.2.2.2⟩) (fun y => rfl) Try.underlying84 (by kernel_rfl) (opensF_cons opens_int3 (opensF_cons opens_int3 (opensF_cons opens_int3 (opensF_one opens_int3) rfl) rfl) rfl) (fun y h => by
    simp only [okEv]
    try simp only [okAny, true_and, and_true] at h
    exact h)).conv rfl (fun I w cs x h => by
    simp only [Cod.via, Cod.pair, cInt, cBool, Cod.flat] at h
    obtain ⟨_, _, rfl, rfl, ⟨_, _, rfl, rfl, ⟨_, _, rfl, rfl, rfl⟩⟩⟩ := h
    rfl)
end Go.Proofs.Ytinlmkhlgclbfab
