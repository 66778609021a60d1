/-
  OpenIntss: what came in and reads as a [][]int. (Printed by wip/tools/open2.py.)
-/
import Derived.Test.YtinlmkhlgclbfaaOpenA
namespace Go.Proofs.Ytinlmkhlgclbfaa
open Go.ChangeShapes Go.WideShapes Go.ChangeAt Go.RowKit Go.Deep
set_option maxRecDepth 100000

theorem opens_intss : Opens Try.prog cInt.slice.slice (okList (okList okInt 8) 24) 38 := opens_slice (bytes := 24) Try.underlying38 (by kernel_rfl) (by kernel_rfl) (by decide) opens_ints
end Go.Proofs.Ytinlmkhlgclbfaa
