/- OpenA to BulkD -/
import Derived.Test.YtinlmkhlgclbfabWv45
import Derived.Test.YtinlmkhlgclbfabRows
import Derived.Deep.CondSized
section
namespace Go.Proofs.Ytinlmkhlgclbfab
open Go.ChangeShapes Go.WideShapes Go.ChangeAt Go.RowKit Go.Deep
set_option maxRecDepth 100000
theorem Opens.conv {P:Program}{T:Type}{e e':Cod T}{ok:T→Prop}{t:TypeId}(h:Opens P e ok t)(hs:e.size=e'.size)(hr:∀I w cs x,e.rel I w cs x→e'.rel I w cs x):Opens P e' ok t:=
 ⟨h.1.trans hs,fun H enc w fuel cs x hx hw=>by
  obtain ⟨y,h1,h2⟩:=h.2 H enc w fuel cs x hx hw
  exact ⟨y,hr _ _ _ _ h1,h2⟩⟩
theorem opens_int3:Opens Try.prog cInt okInt 3:=opens_int Try.underlying3 (by kernel_rfl)
theorem opens_bool4:Opens Try.prog cBool okAny 4:=opens_bool Try.underlying4 (by kernel_rfl)
theorem opens_ints:Opens Try.prog cInt.slice (okList okInt 8) 23:=opens_slice Try.underlying23 (by kernel_rfl) (by kernel_rfl) (by decide) opens_int3
end Go.Proofs.Ytinlmkhlgclbfab
end

section
namespace Go.Proofs.Ytinlmkhlgclbfab
open Go.ChangeShapes Go.WideShapes Go.ChangeAt Go.RowKit Go.Deep
set_option maxRecDepth 100000
structure TTimes where
 t0:Int
 t1:Int
 deriving Inhabited,DecidableEq
def TTimes.cells (x:TTimes):List Value:=[.int .i64 x.t0,.int .i64 x.t1]
def cTimes:Cod TTimes:= .flat 2 TTimes.cells (fun _=>rfl)
def okTimes (x:TTimes):Prop:=okInt x.t0∧okInt x.t1
theorem opens_times:Opens Try.prog cTimes okTimes 47:=
 (opens_struct (S:=TTimes) (e:=(cInt.pair cInt)) (ok':=okTimes) (fun x=>(x.t0,x.t1)) (fun y=>⟨y.1,y.2⟩) (fun y=>rfl) Try.underlying47 (by kernel_rfl) (opensF_cons opens_int3 (opensF_one opens_int3) rfl) (fun y h=>by
  simp only [okTimes]
  try simp only [okAny,true_and,and_true] at h
  exact h)).conv rfl (fun I w cs x h=>by
  simp only [Cod.via,Cod.pair,cInt,cBool,Cod.flat] at h
  obtain ⟨_,_,rfl,rfl,rfl⟩:=h
  rfl)
end Go.Proofs.Ytinlmkhlgclbfab
end

section
namespace Go.Proofs.Ytinlmkhlgclbfab
open Go.ChangeShapes Go.WideShapes Go.ChangeAt Go.RowKit Go.Deep
set_option maxRecDepth 100000
def okChan (x:TChan):Prop:=okInt x.src∧okInt x.dst∧okInt x.size
theorem opens_chan:Opens Try.prog cChan okChan 101:=
 (opens_struct (S:=TChan) (e:=(cInt.pair (cInt.pair cInt))) (ok':=okChan) (fun x=>(x.src,x.dst,x.size)) (fun y=>⟨y.1,y.2.1,y.2.2⟩) (fun y=>rfl) Try.underlying101 (by kernel_rfl) (opensF_cons opens_int3 (opensF_cons opens_int3 (opensF_one opens_int3) rfl) rfl) (fun y h=>by
  simp only [okChan]
  try simp only [okAny,true_and,and_true] at h
  exact h)).conv rfl (fun I w cs x h=>by
  simp only [Cod.via,Cod.pair,cInt,cBool,Cod.flat] at h
  obtain ⟨_,_,rfl,rfl,⟨_,_,rfl,rfl,rfl⟩⟩:=h
  rfl)
end Go.Proofs.Ytinlmkhlgclbfab
end

section
namespace Go.Proofs.Ytinlmkhlgclbfab
open Go.ChangeShapes Go.WideShapes Go.ChangeAt Go.RowKit Go.Deep
set_option maxRecDepth 100000
def okSlot (x:TSlot):Prop:=okInt x.dom∧okInt x.len
theorem opens_slot:Opens Try.prog cSlot okSlot 37:=
 (opens_struct (S:=TSlot) (e:=(cInt.pair cInt)) (ok':=okSlot) (fun x=>(x.dom,x.len)) (fun y=>⟨y.1,y.2⟩) (fun y=>rfl) Try.underlying37 (by kernel_rfl) (opensF_cons opens_int3 (opensF_one opens_int3) rfl) (fun y h=>by
  simp only [okSlot]
  try simp only [okAny,true_and,and_true] at h
  exact h)).conv rfl (fun I w cs x h=>by
  simp only [Cod.via,Cod.pair,cInt,cBool,Cod.flat] at h
  obtain ⟨_,_,rfl,rfl,rfl⟩:=h
  rfl)
end Go.Proofs.Ytinlmkhlgclbfab
end

section
namespace Go.Proofs.Ytinlmkhlgclbfab
open Go.ChangeShapes Go.WideShapes Go.ChangeAt Go.RowKit Go.Deep
set_option maxRecDepth 100000
def okTask (x:TTask):Prop:=okInt x.dom∧okInt x.period∧okInt x.budget∧okInt x.dead
theorem opens_task:Opens Try.prog cTask okTask 103:=
 (opens_struct (S:=TTask) (e:=(cInt.pair (cInt.pair (cInt.pair cInt)))) (ok':=okTask) (fun x=>(x.dom,x.period,x.budget,x.dead)) (fun y=>⟨y.1,y.2.1,y.2.2.1,y.2.2.2⟩) (fun y=>rfl) Try.underlying103 (by kernel_rfl) (opensF_cons opens_int3 (opensF_cons opens_int3 (opensF_cons opens_int3 (opensF_one opens_int3) rfl) rfl) rfl) (fun y h=>by
  simp only [okTask]
  try simp only [okAny,true_and,and_true] at h
  exact h)).conv rfl (fun I w cs x h=>by
  simp only [Cod.via,Cod.pair,cInt,cBool,Cod.flat] at h
  obtain ⟨_,_,rfl,rfl,⟨_,_,rfl,rfl,⟨_,_,rfl,rfl,rfl⟩⟩⟩:=h
  rfl)
end Go.Proofs.Ytinlmkhlgclbfab
end

section
namespace Go.Proofs.Ytinlmkhlgclbfab
open Go.ChangeShapes Go.WideShapes Go.ChangeAt Go.RowKit Go.Deep
set_option maxRecDepth 100000
def okCfg (x:TCfg):Prop:=okInt x.sets∧okInt x.ways∧okInt x.doms∧okInt x.pad∧okInt x.quantum∧okList okSlot 16 x.slots∧okList okInt 8 x.owners∧okList okChan 24 x.chans∧okList okTask 32 x.tasks
theorem opens_cfg:Opens Try.prog cCfg okCfg 27:=
 (opens_struct (S:=TCfg) (e:=(cInt.pair (cInt.pair (cInt.pair (cInt.pair (cInt.pair (cSlot.slice.pair (cInt.slice.pair (cChan.slice.pair cTask.slice))))))))) (ok':=okCfg) (fun x=>(x.sets,x.ways,x.doms,x.pad,x.quantum,x.slots,x.owners,x.chans,x.tasks)) (fun y=>⟨y.1,y.2.1,y.2.2.1,y.2.2.2.1,y.2.2.2.2.1,y.2.2.2.2.2.1,y.2.2.2.2.2.2.1,y.2.2.2.2.2.2.2.1,y.2.2.2.2.2.2.2.2⟩) (fun y=>rfl) Try.underlying27 (by kernel_rfl) (opensF_cons opens_int3 (opensF_cons opens_int3 (opensF_cons opens_int3 (opensF_cons opens_int3 (opensF_cons opens_int3 (opensF_cons (opens_slice (bytes:=16) Try.underlying22 (by kernel_rfl) (by kernel_rfl) (by decide) opens_slot) (opensF_cons opens_ints (opensF_cons (opens_slice (bytes:=24) Try.underlying24 (by kernel_rfl) (by kernel_rfl) (by decide) opens_chan) (opensF_one (opens_slice (bytes:=32) Try.underlying25 (by kernel_rfl) (by kernel_rfl) (by decide) opens_task)) rfl) rfl) rfl) rfl) rfl) rfl) rfl) rfl) (fun y h=>h)).conv rfl (fun I w cs x h=>by
  simp only [Cod.via,Cod.pair,Cod.slice,cInt,Cod.flat] at h
  obtain ⟨_,_,rfl,rfl,⟨_,_,rfl,rfl,⟨_,_,rfl,rfl,⟨_,_,rfl,rfl,⟨_,_,rfl,rfl,⟨_,_,rfl,⟨a0,n0,rfl,s0⟩,⟨_,_,rfl,⟨a1,n1,rfl,s1⟩,⟨_,_,rfl,⟨a2,n2,rfl,s2⟩,⟨a3,n3,rfl,s3⟩⟩⟩⟩⟩⟩⟩⟩⟩:=h
  exact ⟨⟨a0,n0,a1,n1,a2,n2,a3,n3⟩,rfl,⟨s0,s1,s2,s3⟩⟩)
end Go.Proofs.Ytinlmkhlgclbfab
end

section
namespace Go.Proofs.Ytinlmkhlgclbfab
open Go.ChangeShapes Go.WideShapes Go.ChangeAt Go.RowKit Go.Deep
set_option maxRecDepth 100000
def okEv (x:TEv):Prop:=okInt x.t∧okInt x.kind∧okInt x.a∧okInt x.b
theorem opens_ev:Opens Try.prog cEv okEv 84:=
 (opens_struct (S:=TEv) (e:=(cInt.pair (cInt.pair (cInt.pair cInt)))) (ok':=okEv) (fun x=>(x.t,x.kind,x.a,x.b)) (fun y=>⟨y.1,y.2.1,y.2.2.1,y.2.2.2⟩) (fun y=>rfl) Try.underlying84 (by kernel_rfl) (opensF_cons opens_int3 (opensF_cons opens_int3 (opensF_cons opens_int3 (opensF_one opens_int3) rfl) rfl) rfl) (fun y h=>by
  simp only [okEv]
  try simp only [okAny,true_and,and_true] at h
  exact h)).conv rfl (fun I w cs x h=>by
  simp only [Cod.via,Cod.pair,cInt,cBool,Cod.flat] at h
  obtain ⟨_,_,rfl,rfl,⟨_,_,rfl,rfl,⟨_,_,rfl,rfl,rfl⟩⟩⟩:=h
  rfl)
end Go.Proofs.Ytinlmkhlgclbfab
end

section
namespace Go.Proofs.Ytinlmkhlgclbfab
open Go.ChangeShapes Go.WideShapes Go.ChangeAt Go.RowKit Go.Deep
set_option maxRecDepth 100000
def okJob (x:TJob):Prop:=okInt x.task∧okInt x.number∧okInt x.released∧okInt x.used
theorem opens_job:Opens Try.prog cJob okJob 110:=
 (opens_struct (S:=TJob) (e:=(cInt.pair (cInt.pair (cInt.pair (cInt.pair (cBool.pair cBool)))))) (ok':=okJob) (fun x=>(x.task,x.number,x.released,x.used,x.ran,x.missed)) (fun y=>⟨y.1,y.2.1,y.2.2.1,y.2.2.2.1,y.2.2.2.2.1,y.2.2.2.2.2⟩) (fun y=>rfl) Try.underlying110 (by kernel_rfl) (opensF_cons opens_int3 (opensF_cons opens_int3 (opensF_cons opens_int3 (opensF_cons opens_int3 (opensF_cons opens_bool4 (opensF_one opens_bool4) rfl) rfl) rfl) rfl) rfl) (fun y h=>by
  simp only [okJob]
  try simp only [okAny,true_and,and_true] at h
  exact h)).conv rfl (fun I w cs x h=>by
  simp only [Cod.via,Cod.pair,cInt,cBool,Cod.flat] at h
  obtain ⟨_,_,rfl,rfl,⟨_,_,rfl,rfl,⟨_,_,rfl,rfl,⟨_,_,rfl,rfl,⟨_,_,rfl,rfl,rfl⟩⟩⟩⟩⟩:=h
  rfl)
end Go.Proofs.Ytinlmkhlgclbfab
end

section
namespace Go.Proofs.Ytinlmkhlgclbfab
open Go.ChangeShapes Go.WideShapes Go.ChangeAt Go.RowKit Go.Deep
set_option maxRecDepth 100000
def okRing (x:TRing):Prop:=okList okInt 8 x.vals∧okInt x.lost
theorem opens_ringT:Opens Try.prog cRing okRing 113:=
 (opens_struct (S:=TRing) (e:=(cInt.slice.pair cInt)) (ok':=okRing) (fun x=>(x.vals,x.lost)) (fun y=>⟨y.1,y.2⟩) (fun y=>rfl) Try.underlying113 (by kernel_rfl) (opensF_cons opens_ints (opensF_one opens_int3) rfl) (fun y h=>h)).conv rfl (fun I w cs x h=>by
  simp only [Cod.via,Cod.pair,Cod.slice,cInt,Cod.flat] at h
  obtain ⟨_,_,rfl,⟨a0,n0,rfl,s0⟩,rfl⟩:=h
  exact ⟨a0,n0,rfl,s0⟩)
end Go.Proofs.Ytinlmkhlgclbfab
end

section
namespace Go.Proofs.Ytinlmkhlgclbfab
open Go.ChangeShapes Go.WideShapes Go.ChangeAt Go.RowKit Go.Deep
set_option maxRecDepth 100000
def okDom (x:TDom):Prop:=okList okJob 40 x.jobs∧okList okInt 8 x.released∧okInt x.next∧okList okRing 32 x.ins∧okList okInt 8 x.taken∧okList (okList okInt 8) 24 x.outs∧okList okEv 32 x.events
theorem opens_dom:Opens Try.prog cDom okDom 45:=
 (opens_struct (S:=TDom) (e:=(cJob.slice.pair (cInt.slice.pair (cInt.pair (cRing.slice.pair (cInt.slice.pair (cInt.slice.slice.pair cEv.slice))))))) (ok':=okDom) (fun x=>(x.jobs,x.released,x.next,x.ins,x.taken,x.outs,x.events)) (fun y=>⟨y.1,y.2.1,y.2.2.1,y.2.2.2.1,y.2.2.2.2.1,y.2.2.2.2.2.1,y.2.2.2.2.2.2⟩) (fun y=>rfl) Try.underlying45 (by kernel_rfl) (opensF_cons (opens_slice (bytes:=40) Try.underlying40 (by kernel_rfl) (by kernel_rfl) (by decide) opens_job) (opensF_cons opens_ints (opensF_cons opens_int3 (opensF_cons (opens_slice (bytes:=32) Try.underlying41 (by kernel_rfl) (by kernel_rfl) (by decide) opens_ringT) (opensF_cons opens_ints (opensF_cons (opens_slice (bytes:=24) Try.underlying42 (by kernel_rfl) (by kernel_rfl) (by decide) opens_ints) (opensF_one (opens_slice (bytes:=32) Try.underlying43 (by kernel_rfl) (by kernel_rfl) (by decide) opens_ev)) rfl) rfl) rfl) rfl) rfl) rfl) (fun y h=>h)).conv rfl (fun I w cs x h=>by
  simp only [Cod.via,Cod.pair,Cod.slice,cInt,Cod.flat] at h
  obtain ⟨_,_,rfl,⟨a0,n0,rfl,s0⟩,⟨_,_,rfl,⟨a1,n1,rfl,s1⟩,⟨_,_,rfl,rfl,⟨_,_,rfl,⟨a2,n2,rfl,s2⟩,⟨_,_,rfl,⟨a3,n3,rfl,s3⟩,⟨_,_,rfl,⟨a4,n4,rfl,s4⟩,⟨a5,n5,rfl,s5⟩⟩⟩⟩⟩⟩⟩:=h
  exact ⟨⟨a0,n0,a1,n1,a2,n2,a3,n3,a4,n4,a5,n5⟩,rfl,⟨s0,s1,s2,s3,s4,s5⟩⟩)
end Go.Proofs.Ytinlmkhlgclbfab
end

section
namespace Go.Proofs.Ytinlmkhlgclbfab
open Go.ChangeShapes Go.WideShapes Go.ChangeAt Go.RowKit Go.Deep
set_option maxRecDepth 100000
def okWay (x:TWay):Prop:=okInt x.line
theorem opens_way:Opens Try.prog cWay okWay 126:=
 (opens_struct (S:=TWay) (e:=(cInt.pair cBool)) (ok':=okWay) (fun x=>(x.line,x.dirty)) (fun y=>⟨y.1,y.2⟩) (fun y=>rfl) Try.underlying126 (by kernel_rfl) (opensF_cons opens_int3 (opensF_one opens_bool4) rfl) (fun y h=>by
  simp only [okWay]
  try simp only [okAny,true_and,and_true] at h
  exact h)).conv rfl (fun I w cs x h=>by
  simp only [Cod.via,Cod.pair,cInt,cBool,Cod.flat] at h
  obtain ⟨_,_,rfl,rfl,rfl⟩:=h
  rfl)
end Go.Proofs.Ytinlmkhlgclbfab
end

section
namespace Go.Proofs.Ytinlmkhlgclbfab
open Go.ChangeShapes Go.WideShapes Go.ChangeAt Go.RowKit Go.Deep
set_option maxRecDepth 100000
theorem opens_cache:Opens Try.prog (Cod.via id cWay.slice.slice) (fun _=>True) 63:=
 opens_struct id id (fun _=>rfl) Try.underlying63 (by kernel_rfl)
  (opensF_one (opens_slice (bytes:=24) Try.underlying61 (by kernel_rfl) (by kernel_rfl) (by decide) (opens_slice (bytes:=16) Try.underlying124 (by kernel_rfl) (by kernel_rfl) (by decide) opens_way))) (fun _ _=>trivial)
end Go.Proofs.Ytinlmkhlgclbfab
end

section
namespace Go.Proofs.Ytinlmkhlgclbfab
open Go.ChangeShapes Go.WideShapes Go.ChangeAt Go.RowKit Go.Deep
set_option maxRecDepth 100000
def okAct (x:TAct):Prop:=okInt x.kind∧okInt x.n∧okInt x.value
theorem opens_act:Opens Try.prog cAct okAct 65:=
 (opens_struct (S:=TAct) (e:=(cInt.pair (cInt.pair cInt))) (ok':=okAct) (fun x=>(x.kind,x.n,x.value)) (fun y=>⟨y.1,y.2.1,y.2.2⟩) (fun y=>rfl) Try.underlying65 (by kernel_rfl) (opensF_cons opens_int3 (opensF_cons opens_int3 (opensF_one opens_int3) rfl) rfl) (fun y h=>by
  simp only [okAct]
  try simp only [okAny,true_and,and_true] at h
  exact h)).conv rfl (fun I w cs x h=>by
  simp only [Cod.via,Cod.pair,cInt,cBool,Cod.flat] at h
  obtain ⟨_,_,rfl,rfl,⟨_,_,rfl,rfl,rfl⟩⟩:=h
  rfl)
end Go.Proofs.Ytinlmkhlgclbfab
end

section
namespace Go.Proofs.Ytinlmkhlgclbfab
open Go.ChangeShapes Go.WideShapes Go.ChangeAt Go.RowKit Go.Deep
set_option maxRecDepth 100000
theorem opens_acts:Opens Try.prog cAct.slice (okList okAct 24) 76:=opens_slice (bytes:=24) Try.underlying76 (by kernel_rfl) (by kernel_rfl) (by decide) opens_act
end Go.Proofs.Ytinlmkhlgclbfab
end

section
namespace Go.Proofs.Ytinlmkhlgclbfab
open Go.ChangeShapes Go.WideShapes Go.ChangeAt Go.RowKit Go.Deep
set_option maxRecDepth 100000
theorem bulk_mem {H:Type}{x:DataW H}{l:List (DataW H)}(h:x∈l):Rows.uptoBulk x≤Rows.uptoBulkAll l:=by
 induction l with
 |nil=>cases h
 |cons y l ih=>
  rw [Rows.uptoBulkAll]
  rcases List.mem_cons.1 h with rfl|h
  ·omega
  ·have:=ih h;omega
theorem bulk_one {H:Type}(x:DataW H):1≤Rows.uptoBulk x:=by
 cases x with
 |lit l=>cases l<;>simp [Rows.uptoBulk]
 |_=>simp [Rows.uptoBulk]
theorem bulk_len {H:Type}(l:List (DataW H)):l.length≤Rows.uptoBulkAll l:=by
 induction l with
 |nil=>simp
 |cons y l ih=>rw [Rows.uptoBulkAll];have:=bulk_one y;simp only [List.length_cons];omega
theorem bulk_at {H:Type}{l:List (DataW H)}(h:Rows.uptoSmall H l=true){x:DataW H}(hx:x∈l):Rows.uptoBulk x≤1048576:=by
 have h2:Rows.uptoBulkAll l≤1048576:=of_decide_eq_true h
 have:=bulk_mem hx;omega
theorem bulk_events {H:Type}{enc:TypeId×Value→H}{w:World}{d:TDom}{T:TDomS}{x:DataW H}{p:List MemPlace}(h:DataW.Trod enc Try.prog w 0 (fun _=>true) true 45 (.agg (TDom.cells d T).toArray) x p):d.events.length≤Rows.uptoBulk x:=by
 obtain ⟨fuel,hf⟩:=h
 obtain ⟨fs,ht,F,h6,h7,h8,h9⟩:∃fs,Try.prog.underlying 45=some (.struct fs)∧∃F:Field,fs[6]?=some F∧Try.prog.underlying F.type=some (.slice 84)∧F.offset=6∧Try.prog.cellsOf F.type=1:=⟨_,Try.underlying45,_,rfl,Try.underlying43,rfl,by kernel_rfl⟩
 obtain ⟨xs,n,rfl,hx,hl,hlen,hfl⟩:=DataW.trod_struct ht hf
 have h:=hfl 6 F h6
 have hlt:6 < xs.length:=by rw [hlen];exact (Array.getElem?_eq_some_iff.1 h6).1
 rw [h8,h9,List.getElem?_eq_getElem hlt] at h
 have hcs:((Value.agg (TDom.cells d T).toArray).cells.toList.drop 6).take 1=[.slice T.a5 d.events.length T.n5]:=rfl
 rw [hcs] at h
 injection hx with hx1 _
 rw [hx1]
 have hm:xs[6].1∈xs.map (·.1):=List.mem_map.2 ⟨_,List.getElem_mem hlt,rfl⟩
 have hb:=bulk_mem hm
 rw [Rows.uptoBulk]
 rcases open_slice h7 h with ⟨e,_⟩|⟨a,len,cap,m,n',D,Pl,e,_,_,_,_,e2,_⟩
 ·injection e with e _
  injection e with _ e _
  omega
 ·injection e with e _
  injection e with _ e _
  rw [e2] at hb
  simp only [Rows.uptoBulk] at hb
  have:=bulk_len ((List.range len).map D)
  rw [List.length_map,List.length_range] at this
  omega
end Go.Proofs.Ytinlmkhlgclbfab
end
