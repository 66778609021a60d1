/-
  OpenCfg: what came in and reads as a api.Config. (Printed by wip/tools/open2.py.)
-/
import Derived.Test.YtinlmkhlgclbfaaOpenChan
import Derived.Test.YtinlmkhlgclbfaaOpenSlot
import Derived.Test.YtinlmkhlgclbfaaOpenTask
namespace Go.Proofs.Ytinlmkhlgclbfaa
open Go.ChangeShapes Go.WideShapes Go.ChangeAt Go.RowKit Go.Deep
set_option maxRecDepth 100000

def okCfg (x : TCfg) : Prop := okInt x.sets ∧ okInt x.ways ∧ okInt x.doms ∧ okInt x.pad ∧ okInt x.quantum ∧ okList okSlot 16 x.slots ∧ okList okInt 8 x.owners ∧ okList okChan 24 x.chans ∧ okList okTask 32 x.tasks
theorem opens_cfg : Opens Try.prog cCfg okCfg 63 :=
  (opens_struct (S := TCfg) (e := (cInt.pair (cInt.pair (cInt.pair (cInt.pair (cInt.pair (cSlot.slice.pair (cInt.slice.pair (cChan.slice.pair cTask.slice))))))))) (ok' := okCfg) (fun x => (x.sets, x.ways, x.doms, x.pad, x.quantum, x.slots, x.owners, x.chans, x.tasks)) (fun y => ⟨y.1, y.2.1, y.2.2.1, y.2.2.2.1, y.2.2.2.2.1, y.2.2.2.2.2.1, y.2.2.2.2.2.2.1, y.2.2.2.2.2.2.2.1, y.2.2.2.2.2.2.2.2⟩) (fun y => rfl) Try.underlying63 (by kernel_rfl) (opensF_cons opens_int3 (opensF_cons opens_int3 (opensF_cons opens_int3 (opensF_cons opens_int3 (opensF_cons opens_int3 (opensF_cons (opens_slice (bytes := 16) Try.underlying59 (by kernel_rfl) (by kernel_rfl) (by decide) opens_slot) (opensF_cons opens_ints (opensF_cons (opens_slice (bytes := 24) Try.underlying60 (by kernel_rfl) (by kernel_rfl) (by decide) opens_chan) (opensF_one (opens_slice (bytes := 32) Try.underlying61 (by kernel_rfl) (by kernel_rfl) (by decide) opens_task)) rfl) rfl) rfl) rfl) rfl) rfl) rfl) rfl) (fun y h => h)).conv rfl (fun I w cs x h => by
    simp only [Cod.via, Cod.pair, Cod.slice, cInt, Cod.flat] at h
    obtain ⟨_, _, rfl, rfl, ⟨_, _, rfl, rfl, ⟨_, _, rfl, rfl, ⟨_, _, rfl, rfl, ⟨_, _, rfl, rfl, ⟨_, _, rfl, ⟨a0, n0, rfl, s0⟩, ⟨_, _, rfl, ⟨a1, n1, rfl, s1⟩, ⟨_, _, rfl, ⟨a2, n2, rfl, s2⟩, ⟨a3, n3, rfl, s3⟩⟩⟩⟩⟩⟩⟩⟩⟩ := h
    exact ⟨⟨a0, n0, a1, n1, a2, n2, a3, n3⟩, rfl, ⟨s0, s1, s2, s3⟩⟩)
end Go.Proofs.Ytinlmkhlgclbfaa
