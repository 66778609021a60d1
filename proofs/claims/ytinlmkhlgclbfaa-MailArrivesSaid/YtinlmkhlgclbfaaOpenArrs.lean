/-
  OpenArrs: what came in and reads as a []api.Arrival. (Printed by wip/tools/open2.py.)
-/
import Derived.Test.YtinlmkhlgclbfaaOpenArr
namespace Go.Proofs.Ytinlmkhlgclbfaa
open Go.ChangeShapes Go.WideShapes Go.ChangeAt Go.RowKit Go.Deep
set_option maxRecDepth 100000

theorem opens_arrs : Opens Try.prog cArr.slice (okList okArr 16) 64 := opens_slice (bytes := 16) Try.underlying64 (by kernel_rfl) (by kernel_rfl) (by decide) opens_arr
end Go.Proofs.Ytinlmkhlgclbfaa
