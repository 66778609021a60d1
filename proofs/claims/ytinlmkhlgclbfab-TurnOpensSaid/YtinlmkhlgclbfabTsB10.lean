/- OpenArrs -/
import Derived.Test.YtinlmkhlgclbfabTsB09
namespace Go.Proofs.Ytinlmkhlgclbfab
open Go.ChangeShapes Go.WideShapes Go.ChangeAt Go.RowKit Go.Deep
set_option maxRecDepth 100000

theorem opens_arrs : Opens Try.prog cArr.slice (okList okArr 16) 39 := opens_slice (bytes := 16) Try.underlying39 (by kernel_rfl) (by kernel_rfl) (by decide) opens_arr
end Go.Proofs.Ytinlmkhlgclbfab
