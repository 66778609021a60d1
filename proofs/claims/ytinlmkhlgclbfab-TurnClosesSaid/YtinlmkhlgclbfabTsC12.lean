/- OpenDom -/
import Derived.Test.YtinlmkhlgclbfabTsC09
import Derived.Test.YtinlmkhlgclbfabTsC10
import Derived.Test.YtinlmkhlgclbfabTsC11
namespace Go.Proofs.Ytinlmkhlgclbfab
open Go.ChangeShapes Go.WideShapes Go.ChangeAt Go.RowKit Go.Deep
set_option maxRecDepth 100000

def okDom (x : TDom) : Prop := okList okJob 40 x.jobs ∧ okList okInt 8 x.released ∧ okInt x.next ∧ okList okRing 32 x.ins ∧ okList okInt 8 x.taken ∧ okList (okList okInt 8) 24 x.outs ∧ okList okEv 32 x.events
theorem opens_dom : Opens Try.prog cDom okDom 45 :=
  (opens_struct (S := TDom) (e := (cJob.slice.pair (cInt.slice.pair (cInt.pair (cRing.slice.pair (cInt.slice.pair (cInt.slice.slice.pair cEv.slice))))))) (ok' := okDom) (fun x => (x.jobs, x.released, x.next, x.ins, x.taken, x.outs, x.events)) (fun y => ⟨y.1, y.2.1, y.2.2.1, y.2.2.2.1, y.2.2.2.2.1, y.2.2.2.2.2.1, y.2.2.2.2.2.2⟩) (fun y => rfl) Try.underlying45 (by kernel_rfl) (opensF_cons (opens_slice (bytes := 40) Try.underlying40 (by kernel_rfl) (by kernel_rfl) (by decide) opens_job) (opensF_cons opens_ints (opensF_cons opens_int3 (opensF_cons (opens_slice (bytes := 32) Try.underlying41 (by kernel_rfl) (by kernel_rfl) (by decide) opens_ringT) (opensF_cons opens_ints (opensF_cons (opens_slice (bytes := 24) Try.underlying42 (by kernel_rfl) (by kernel_rfl) (by decide) opens_ints) (opensF_one (opens_slice (bytes := 32) Try.underlying43 (by kernel_rfl) (by kernel_rfl) (by decide) opens_ev)) rfl) rfl) rfl) rfl) rfl) rfl) (fun y h => h)).conv rfl (fun I w cs x h => by
    simp only [Cod.via, Cod.pair, Cod.slice, cInt, Cod.flat] at h
    obtain ⟨_, _, rfl, ⟨a0, n0, rfl, s0⟩, ⟨_, _, rfl, ⟨a1, n1, rfl, s1⟩, ⟨_, _, rfl, rfl, ⟨_, _, rfl, ⟨a2, n2, rfl, s2⟩, ⟨_, _, rfl, ⟨a3, n3, rfl, s3⟩, ⟨_, _, rfl, ⟨a4, n4, rfl, s4⟩, ⟨a5, n5, rfl, s5⟩⟩⟩⟩⟩⟩⟩ := h
    exact ⟨⟨a0, n0, a1, n1, a2, n2, a3, n3, a4, n4, a5, n5⟩, rfl, ⟨s0, s1, s2, s3, s4, s5⟩⟩)
end Go.Proofs.Ytinlmkhlgclbfab
