/- OpenDoms -/
import Derived.Test.YtinlmkhlgclbfabTsC12
namespace Go.Proofs.Ytinlmkhlgclbfab
open Go.ChangeShapes Go.WideShapes Go.ChangeAt Go.RowKit Go.Deep
set_option maxRecDepth 100000

theorem opens_doms : Opens Try.prog cDom.slice (okList okDom 152) 55 := opens_slice (bytes := 152) Try.underlying55 (by kernel_rfl) (by kernel_rfl) (by decide) opens_dom
end Go.Proofs.Ytinlmkhlgclbfab
