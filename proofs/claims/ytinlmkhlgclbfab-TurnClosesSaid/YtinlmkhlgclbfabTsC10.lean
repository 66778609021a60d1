/- OpenJob -/
import Derived.Test.YtinlmkhlgclbfabTsA39
namespace Go.Proofs.Ytinlmkhlgclbfab
open Go.ChangeShapes Go.WideShapes Go.ChangeAt Go.RowKit Go.Deep
set_option maxRecDepth 100000

def okJob (x : TJob) : Prop := okInt x.task ∧ okInt x.number ∧ okInt x.released ∧ okInt x.used
theorem opens_job : Opens Try.prog cJob okJob 110 :=
  (opens_struct (S := TJob) (e := (cInt.pair (cInt.pair (cInt.pair (cInt.pair (cBool.pair cBool)))))) (ok' := okJob) (fun x => (x.task, x.number, x.released, x.used, x.ran, x.missed)) (fun y => ⟨y.1, y.2.1, y.2.2.1, y.2.2.2.1, y.2.2.2.2.1, y.2.2.2.2.2⟩) (fun y => rfl) Try.underlying110 (by kernel_rfl) (opensF_cons opens_int3 (opensF_cons opens_int3 (opensF_cons opens_int3 (opensF_cons opens_int3 (opensF_cons opens_bool4 (opensF_one opens_bool4) rfl) rfl) rfl) rfl) rfl) (fun y h => by
    simp only [okJob]
    try simp only [okAny, true_and, and_true] at h
    exact h)).conv rfl (fun I w cs x h => by
    simp only [Cod.via, Cod.pair, cInt, cBool, Cod.flat] at h
    obtain ⟨_, _, rfl, rfl, ⟨_, _, rfl, rfl, ⟨_, _, rfl, rfl, ⟨_, _, rfl, rfl, ⟨_, _, rfl, rfl, rfl⟩⟩⟩⟩⟩ := h
    rfl)
end Go.Proofs.Ytinlmkhlgclbfab
