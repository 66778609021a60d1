/- OpenRingT -/
import Derived.Test.YtinlmkhlgclbfabTsA39
namespace Go.Proofs.Ytinlmkhlgclbfab
open Go.ChangeShapes Go.WideShapes Go.ChangeAt Go.RowKit Go.Deep
set_option maxRecDepth 100000

def okRing (x : TRing) : Prop := okList okInt 8 x.vals ∧ okInt x.lost
theorem opens_ringT : Opens Try.prog cRing okRing 113 :=
  (opens_struct (S := TRing) (e := (cInt.slice.pair cInt)) (ok' := okRing) (fun x => (x.vals, x.lost)) (fun y => ⟨y.1, y.2⟩) (fun y => rfl) Try.underlying113 (by kernel_rfl) (opensF_cons opens_ints (opensF_one opens_int3) rfl) (fun y h => h)).conv rfl (fun I w cs x h => by
    simp only [Cod.via, Cod.pair, Cod.slice, cInt, Cod.flat] at h
    obtain ⟨_, _, rfl, ⟨a0, n0, rfl, s0⟩, rfl⟩ := h
    exact ⟨a0, n0, rfl, s0⟩)
end Go.Proofs.Ytinlmkhlgclbfab
