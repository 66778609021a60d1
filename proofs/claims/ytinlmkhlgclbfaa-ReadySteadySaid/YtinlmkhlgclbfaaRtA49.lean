/- OpenA OpenChan OpenSlot OpenTask OpenCfg OpenEv OpenJob OpenRingT OpenDom -/
import Derived.Test.YtinlmkhlgclbfaaRtA04
import Derived.Test.YtinlmkhlgclbfaaRtA48
import Derived.Test.YtinlmkhlgclbfaaProg
section
namespace Go.Proofs.Ytinlmkhlgclbfaa
open Go.ChangeShapes Go.WideShapes Go.ChangeAt Go.RowKit Go.Deep
set_option maxRecDepth 100000

theorem Opens.conv {P : Program} {T : Type} {e e' : Cod T} {ok : T → Prop} {t : TypeId} (h : Opens P e ok t) (hs : e.size = e'.size) (hr : ∀ I w cs x, e.rel I w cs x → e'.rel I w cs x) : Opens P e' ok t :=
  ⟨h.1.trans hs, fun H enc w fuel cs x hx hw => by
    obtain ⟨y, h1, h2⟩ := h.2 H enc w fuel cs x hx hw
    exact ⟨y, hr _ _ _ _ h1, h2⟩⟩
theorem Opens.weaken {P : Program} {T : Type} {e : Cod T} {ok ok' : T → Prop} {t : TypeId} (h : Opens P e ok t) (hr : ∀ x, ok x → ok' x) : Opens P e ok' t :=
  ⟨h.1, fun H enc w fuel cs x hx hw => by
    obtain ⟨y, h1, h2⟩ := h.2 H enc w fuel cs x hx hw
    exact ⟨y, h1, hr y h2⟩⟩
theorem opens_int3 : Opens Try.prog cInt okInt 3 := opens_int Try.underlying3 (by kernel_rfl)
theorem opens_bool4 : Opens Try.prog cBool okAny 4 := opens_bool Try.underlying4 (by kernel_rfl)
theorem opens_ints : Opens Try.prog cInt.slice (okList okInt 8) 22 := opens_slice Try.underlying22 (by kernel_rfl) (by kernel_rfl) (by decide) opens_int3
end Go.Proofs.Ytinlmkhlgclbfaa
end

section
namespace Go.Proofs.Ytinlmkhlgclbfaa
open Go.ChangeShapes Go.WideShapes Go.ChangeAt Go.RowKit Go.Deep
set_option maxRecDepth 100000

def okChan (x : TChan) : Prop := okInt x.src ∧ okInt x.dst ∧ okInt x.size
theorem opens_chan : Opens Try.prog cChan okChan 123 :=
  (opens_struct (S := TChan) (e := (cInt.pair (cInt.pair cInt))) (ok' := okChan) (fun x => (x.src, x.dst, x.size)) (fun y => ⟨y.1, y.2.1, y.2.2⟩) (fun y => rfl) Try.underlying123 (by kernel_rfl) (opensF_cons opens_int3 (opensF_cons opens_int3 (opensF_one opens_int3) rfl) rfl) (fun y h => by
    simp only [okChan]
    try simp only [okAny, true_and, and_true] at h
    exact h)).conv rfl (fun I w cs x h => by
    simp only [Cod.via, Cod.pair, cInt, cBool, Cod.flat] at h
    obtain ⟨_, _, rfl, rfl, ⟨_, _, rfl, rfl, rfl⟩⟩ := h
    rfl)
end Go.Proofs.Ytinlmkhlgclbfaa
end

section
namespace Go.Proofs.Ytinlmkhlgclbfaa
open Go.ChangeShapes Go.WideShapes Go.ChangeAt Go.RowKit Go.Deep
set_option maxRecDepth 100000

def okSlot (x : TSlot) : Prop := okInt x.dom ∧ okInt x.len
theorem opens_slot : Opens Try.prog cSlot okSlot 121 :=
  (opens_struct (S := TSlot) (e := (cInt.pair cInt)) (ok' := okSlot) (fun x => (x.dom, x.len)) (fun y => ⟨y.1, y.2⟩) (fun y => rfl) Try.underlying121 (by kernel_rfl) (opensF_cons opens_int3 (opensF_one opens_int3) rfl) (fun y h => by
    simp only [okSlot]
    try simp only [okAny, true_and, and_true] at h
    exact h)).conv rfl (fun I w cs x h => by
    simp only [Cod.via, Cod.pair, cInt, cBool, Cod.flat] at h
    obtain ⟨_, _, rfl, rfl, rfl⟩ := h
    rfl)
end Go.Proofs.Ytinlmkhlgclbfaa
end

section
namespace Go.Proofs.Ytinlmkhlgclbfaa
open Go.ChangeShapes Go.WideShapes Go.ChangeAt Go.RowKit Go.Deep
set_option maxRecDepth 100000

def okTask (x : TTask) : Prop := okInt x.dom ∧ okInt x.period ∧ okInt x.budget ∧ okInt x.dead
theorem opens_task : Opens Try.prog cTask okTask 108 :=
  (opens_struct (S := TTask) (e := (cInt.pair (cInt.pair (cInt.pair cInt)))) (ok' := okTask) (fun x => (x.dom, x.period, x.budget, x.dead)) (fun y => ⟨y.1, y.2.1, y.2.2.1, y.2.2.2⟩) (fun y => rfl) Try.underlying108 (by kernel_rfl) (opensF_cons opens_int3 (opensF_cons opens_int3 (opensF_cons opens_int3 (opensF_one opens_int3) rfl) rfl) rfl) (fun y h => by
    simp only [okTask]
    try simp only [okAny, true_and, and_true] at h
    exact h)).conv rfl (fun I w cs x h => by
    simp only [Cod.via, Cod.pair, cInt, cBool, Cod.flat] at h
    obtain ⟨_, _, rfl, rfl, ⟨_, _, rfl, rfl, ⟨_, _, rfl, rfl, rfl⟩⟩⟩ := h
    rfl)
end Go.Proofs.Ytinlmkhlgclbfaa
end

section
namespace Go.Proofs.Ytinlmkhlgclbfaa
open Go.ChangeShapes Go.WideShapes Go.ChangeAt Go.RowKit Go.Deep
set_option maxRecDepth 100000

def okCfg (x : TCfg) : Prop := okInt x.sets ∧ okInt x.ways ∧ okInt x.doms ∧ okInt x.pad ∧ okInt x.quantum ∧ okList okSlot 16 x.slots ∧ okList okInt 8 x.owners ∧ okList okChan 24 x.chans ∧ okList okTask 32 x.tasks
theorem opens_cfg : Opens Try.prog cCfg okCfg 63 :=
  (opens_struct (S := TCfg) (e := (cInt.pair (cInt.pair (cInt.pair (cInt.pair (cInt.pair (cSlot.slice.pair (cInt.slice.pair (cChan.slice.pair cTask.slice))))))))) (ok' := okCfg) (fun x => (x.sets, x.ways, x.doms, x.pad, x.quantum, x.slots, x.owners, x.chans, x.tasks)) (fun y => ⟨y.1, y.2.1, y.2.2.1, y.2.2.2.1, y.2.2.2.2.1, y.2.2.2.2.2.1, y.2.2.2.2.2.2.1, y.2.2.2.2.2.2.2.1, y.2.2.2.2.2.2.2.2⟩) (fun y => rfl) Try.underlying63 (by kernel_rfl) (opensF_cons opens_int3 (opensF_cons opens_int3 (opensF_cons opens_int3 (opensF_cons opens_int3 (opensF_cons opens_int3 (opensF_cons (opens_slice (bytes := 16) Try.underlying59 (by kernel_rfl) (by kernel_rfl) (by decide) opens_slot) (opensF_cons opens_ints (opensF_cons (opens_slice (bytes := 24) Try.underlying60 (by kernel_rfl) (by kernel_rfl) (by decide) opens_chan) (opensF_one (opens_slice (bytes := 32) Try.underlying61 (by kernel_rfl) (by kernel_rfl) (by decide) opens_task)) rfl) rfl) rfl) rfl) rfl) rfl) rfl) rfl) (fun y h => h)).conv rfl (fun I w cs x h => by
    simp only [Cod.via, Cod.pair, Cod.slice, cInt, Cod.flat] at h
    obtain ⟨_, _, rfl, rfl, ⟨_, _, rfl, rfl, ⟨_, _, rfl, rfl, ⟨_, _, rfl, rfl, ⟨_, _, rfl, rfl, ⟨_, _, rfl, ⟨a0, n0, rfl, s0⟩, ⟨_, _, rfl, ⟨a1, n1, rfl, s1⟩, ⟨_, _, rfl, ⟨a2, n2, rfl, s2⟩, ⟨a3, n3, rfl, s3⟩⟩⟩⟩⟩⟩⟩⟩⟩ := h
    exact ⟨⟨a0, n0, a1, n1, a2, n2, a3, n3⟩, rfl, ⟨s0, s1, s2, s3⟩⟩)
end Go.Proofs.Ytinlmkhlgclbfaa
end

section
namespace Go.Proofs.Ytinlmkhlgclbfaa
open Go.ChangeShapes Go.WideShapes Go.ChangeAt Go.RowKit Go.Deep
set_option maxRecDepth 100000

def okEv (x : TEv) : Prop := okInt x.t ∧ okInt x.kind ∧ okInt x.a ∧ okInt x.b
theorem opens_ev : Opens Try.prog cEv okEv 144 :=
  (opens_struct (S := TEv) (e := (cInt.pair (cInt.pair (cInt.pair cInt)))) (ok' := okEv) (fun x => (x.t, x.kind, x.a, x.b)) (fun y => ⟨y.1, y.2.1, y.2.2.1, y.2.2.2⟩) (fun y => rfl) Try.underlying144 (by kernel_rfl) (opensF_cons opens_int3 (opensF_cons opens_int3 (opensF_cons opens_int3 (opensF_one opens_int3) rfl) rfl) rfl) (fun y h => by
    simp only [okEv]
    try simp only [okAny, true_and, and_true] at h
    exact h)).conv rfl (fun I w cs x h => by
    simp only [Cod.via, Cod.pair, cInt, cBool, Cod.flat] at h
    obtain ⟨_, _, rfl, rfl, ⟨_, _, rfl, rfl, ⟨_, _, rfl, rfl, rfl⟩⟩⟩ := h
    rfl)
end Go.Proofs.Ytinlmkhlgclbfaa
end

section
namespace Go.Proofs.Ytinlmkhlgclbfaa
open Go.ChangeShapes Go.WideShapes Go.ChangeAt Go.RowKit Go.Deep
set_option maxRecDepth 100000

def okJob (x : TJob) : Prop := okInt x.task ∧ okInt x.number ∧ okInt x.released ∧ okInt x.used
theorem opens_job : Opens Try.prog cJob okJob 106 :=
  (opens_struct (S := TJob) (e := (cInt.pair (cInt.pair (cInt.pair (cInt.pair (cBool.pair cBool)))))) (ok' := okJob) (fun x => (x.task, x.number, x.released, x.used, x.ran, x.missed)) (fun y => ⟨y.1, y.2.1, y.2.2.1, y.2.2.2.1, y.2.2.2.2.1, y.2.2.2.2.2⟩) (fun y => rfl) Try.underlying106 (by kernel_rfl) (opensF_cons opens_int3 (opensF_cons opens_int3 (opensF_cons opens_int3 (opensF_cons opens_int3 (opensF_cons opens_bool4 (opensF_one opens_bool4) rfl) rfl) rfl) rfl) rfl) (fun y h => by
    simp only [okJob]
    try simp only [okAny, true_and, and_true] at h
    exact h)).conv rfl (fun I w cs x h => by
    simp only [Cod.via, Cod.pair, cInt, cBool, Cod.flat] at h
    obtain ⟨_, _, rfl, rfl, ⟨_, _, rfl, rfl, ⟨_, _, rfl, rfl, ⟨_, _, rfl, rfl, ⟨_, _, rfl, rfl, rfl⟩⟩⟩⟩⟩ := h
    rfl)
end Go.Proofs.Ytinlmkhlgclbfaa
end

section
namespace Go.Proofs.Ytinlmkhlgclbfaa
open Go.ChangeShapes Go.WideShapes Go.ChangeAt Go.RowKit Go.Deep
set_option maxRecDepth 100000

def okRing (x : TRing) : Prop := okList okInt 8 x.vals ∧ okInt x.lost
theorem opens_ringT : Opens Try.prog cRing okRing 24 :=
  (opens_struct (S := TRing) (e := (cInt.slice.pair cInt)) (ok' := okRing) (fun x => (x.vals, x.lost)) (fun y => ⟨y.1, y.2⟩) (fun y => rfl) Try.underlying24 (by kernel_rfl) (opensF_cons opens_ints (opensF_one opens_int3) rfl) (fun y h => h)).conv rfl (fun I w cs x h => by
    simp only [Cod.via, Cod.pair, Cod.slice, cInt, Cod.flat] at h
    obtain ⟨_, _, rfl, ⟨a0, n0, rfl, s0⟩, rfl⟩ := h
    exact ⟨a0, n0, rfl, s0⟩)
end Go.Proofs.Ytinlmkhlgclbfaa
end

section
namespace Go.Proofs.Ytinlmkhlgclbfaa
open Go.ChangeShapes Go.WideShapes Go.ChangeAt Go.RowKit Go.Deep
set_option maxRecDepth 100000

def okDom (x : TDom) : Prop := okList okJob 40 x.jobs ∧ okList okInt 8 x.released ∧ okInt x.next ∧ okList okRing 32 x.ins ∧ okList okInt 8 x.taken ∧ okList (okList okInt 8) 24 x.outs ∧ okList okEv 32 x.events
theorem opens_dom : Opens Try.prog cDom okDom 90 :=
  (opens_struct (S := TDom) (e := (cJob.slice.pair (cInt.slice.pair (cInt.pair (cRing.slice.pair (cInt.slice.pair (cInt.slice.slice.pair cEv.slice))))))) (ok' := okDom) (fun x => (x.jobs, x.released, x.next, x.ins, x.taken, x.outs, x.events)) (fun y => ⟨y.1, y.2.1, y.2.2.1, y.2.2.2.1, y.2.2.2.2.1, y.2.2.2.2.2.1, y.2.2.2.2.2.2⟩) (fun y => rfl) Try.underlying90 (by kernel_rfl) (opensF_cons (opens_slice (bytes := 40) Try.underlying86 (by kernel_rfl) (by kernel_rfl) (by decide) opens_job) (opensF_cons opens_ints (opensF_cons opens_int3 (opensF_cons (opens_slice (bytes := 32) Try.underlying87 (by kernel_rfl) (by kernel_rfl) (by decide) opens_ringT) (opensF_cons opens_ints (opensF_cons (opens_slice (bytes := 24) Try.underlying38 (by kernel_rfl) (by kernel_rfl) (by decide) opens_ints) (opensF_one (opens_slice (bytes := 32) Try.underlying88 (by kernel_rfl) (by kernel_rfl) (by decide) opens_ev)) rfl) rfl) rfl) rfl) rfl) rfl) (fun y h => h)).conv rfl (fun I w cs x h => by
    simp only [Cod.via, Cod.pair, Cod.slice, cInt, Cod.flat] at h
    obtain ⟨_, _, rfl, ⟨a0, n0, rfl, s0⟩, ⟨_, _, rfl, ⟨a1, n1, rfl, s1⟩, ⟨_, _, rfl, rfl, ⟨_, _, rfl, ⟨a2, n2, rfl, s2⟩, ⟨_, _, rfl, ⟨a3, n3, rfl, s3⟩, ⟨_, _, rfl, ⟨a4, n4, rfl, s4⟩, ⟨a5, n5, rfl, s5⟩⟩⟩⟩⟩⟩⟩ := h
    exact ⟨⟨a0, n0, a1, n1, a2, n2, a3, n3, a4, n4, a5, n5⟩, rfl, ⟨s0, s1, s2, s3, s4, s5⟩⟩)
end Go.Proofs.Ytinlmkhlgclbfaa
end
