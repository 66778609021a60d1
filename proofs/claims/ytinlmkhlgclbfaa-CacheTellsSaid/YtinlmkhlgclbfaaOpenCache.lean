/-
  OpenCache: what came in and reads as a cache.
-/
import Derived.Test.YtinlmkhlgclbfaaOpenWay
namespace Go.Proofs.Ytinlmkhlgclbfaa
open Go.ChangeShapes Go.WideShapes Go.ChangeAt Go.RowKit Go.Deep
set_option maxRecDepth 100000
theorem opens_cache : Opens Try.prog (Cod.via id cWay.slice.slice) (fun _ => True) 44 :=
  opens_struct id id (fun _ => rfl) Try.underlying44 (by kernel_rfl)
    (opensF_one (opens_slice (bytes := 24) Try.underlying42 (by kernel_rfl) (by kernel_rfl) (by decide) (opens_slice (bytes := 16) Try.underlying54 (by kernel_rfl) (by kernel_rfl) (by decide) opens_way))) (fun _ _ => trivial)
end Go.Proofs.Ytinlmkhlgclbfaa
