/- OpenTimes -/
import Derived.Test.YtinlmkhlgclbfabTsA39
namespace Go.Proofs.Ytinlmkhlgclbfab
open Go.ChangeShapes Go.WideShapes Go.ChangeAt Go.RowKit Go.Deep
set_option maxRecDepth 100000

structure TTimes where
  t0 : Int
  t1 : Int
  deriving Inhabited, DecidableEq
def TTimes.cells (x : TTimes) : List Value := [.int .i64 x.t0, .int .i64 x.t1]
def cTimes : Cod TTimes := .flat 2 TTimes.cells (fun _ => rfl)
def okTimes (x : TTimes) : Prop := okInt x.t0 ∧ okInt x.t1
theorem opens_times : Opens Try.prog cTimes okTimes 47 :=
  (opens_struct (S := TTimes) (e := (cInt.pair cInt)) (ok' := okTimes) (fun x => (x.t0, x.t1)) (fun y => ⟨y.1, y.2⟩) (fun y => rfl) Try.underlying47 (by kernel_rfl) (opensF_cons opens_int3 (opensF_one opens_int3) rfl) (fun y h => by
    simp only [okTimes]
    try simp only [okAny, true_and, and_true] at h
    exact h)).conv rfl (fun I w cs x h => by
    simp only [Cod.via, Cod.pair, cInt, cBool, Cod.flat] at h
    obtain ⟨_, _, rfl, rfl, rfl⟩ := h
    rfl)
end Go.Proofs.Ytinlmkhlgclbfab
