/- OpenArr -/
import Derived.Test.YtinlmkhlgclbfabTsA39
namespace Go.Proofs.Ytinlmkhlgclbfab
open Go.ChangeShapes Go.WideShapes Go.ChangeAt Go.RowKit Go.Deep
set_option maxRecDepth 100000

def okArr (x : TArr) : Prop := okInt x.t ∧ okInt x.line
theorem opens_arr : Opens Try.prog cArr okArr 116 :=
  (opens_struct (S := TArr) (e := (cInt.pair cInt)) (ok' := okArr) (fun x => (x.t, x.line)) (fun y => ⟨y.1, y.2⟩) (fun y => rfl) Try.underlying116 (by kernel_rfl) (opensF_cons opens_int3 (opensF_one opens_int3) rfl) (fun y h => by
    simp only [okArr]
    try simp only [okAny, true_and, and_true] at h
    exact h)).conv rfl (fun I w cs x h => by
    simp only [Cod.via, Cod.pair, cInt, cBool, Cod.flat] at h
    obtain ⟨_, _, rfl, rfl, rfl⟩ := h
    rfl)
end Go.Proofs.Ytinlmkhlgclbfab
