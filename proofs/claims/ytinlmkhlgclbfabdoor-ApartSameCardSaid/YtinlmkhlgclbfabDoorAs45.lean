/- OpenA to ShelfT -/
import Derived.Test.YtinlmkhlgclbfabDoorAs44
import Derived.Shelf.Strings.Builder1
import Derived.Shelf.Strconv.Itoa3
import Derived.Lib.ItoaLen
section
namespace Go.Proofs.YtinlmkhlgclbfabDoor
open Go.ChangeShapes Go.WideShapes Go.ChangeAt Go.RowKit Go.Deep
set_option maxRecDepth 100000
theorem Opens.conv {P:Program}{T:Type}{e e':Cod T}{ok:T→Prop}{t:TypeId}(h:Opens P e ok t)(hs:e.size=e'.size)(hr:∀I w cs x,e.rel I w cs x→e'.rel I w cs x):Opens P e' ok t:=
 ⟨h.1.trans hs,fun H enc w fuel cs x hx hw=>by
  obtain ⟨y,h1,h2⟩:=h.2 H enc w fuel cs x hx hw
  exact ⟨y,hr _ _ _ _ h1,h2⟩⟩
theorem opens_int3:Opens Tryd.prog cInt okInt 3:=opens_int Tryd.underlying3 (by kernel_rfl)
theorem opens_ints:Opens Tryd.prog cInt.slice (okList okInt 8) 23:=opens_slice Tryd.underlying23 (by kernel_rfl) (by kernel_rfl) (by decide) opens_int3
end Go.Proofs.YtinlmkhlgclbfabDoor
end

section
namespace Go.Proofs.YtinlmkhlgclbfabDoor
open Go.ChangeShapes Go.WideShapes Go.ChangeAt Go.RowKit Go.Deep
set_option maxRecDepth 100000
def okChan (x:TChan):Prop:=okInt x.src∧okInt x.dst∧okInt x.size
theorem opens_chan:Opens Tryd.prog cChan okChan 124:=
 (opens_struct (S:=TChan) (e:=(cInt.pair (cInt.pair cInt))) (ok':=okChan) (fun x=>(x.src,x.dst,x.size)) (fun y=>⟨y.1,y.2.1,y.2.2⟩) (fun y=>rfl) Tryd.underlying124 (by kernel_rfl) (opensF_cons opens_int3 (opensF_cons opens_int3 (opensF_one opens_int3) rfl) rfl) (fun y h=>by
  simp only [okChan]
  try simp only [okAny,true_and,and_true] at h
  exact h)).conv rfl (fun I w cs x h=>by
  simp only [Cod.via,Cod.pair,cInt,cBool,Cod.flat] at h
  obtain ⟨_,_,rfl,rfl,⟨_,_,rfl,rfl,rfl⟩⟩:=h
  rfl)
end Go.Proofs.YtinlmkhlgclbfabDoor
end

section
namespace Go.Proofs.YtinlmkhlgclbfabDoor
open Go.ChangeShapes Go.WideShapes Go.ChangeAt Go.RowKit Go.Deep
set_option maxRecDepth 100000
def okSlot (x:TSlot):Prop:=okInt x.dom∧okInt x.len
theorem opens_slot:Opens Tryd.prog cSlot okSlot 81:=
 (opens_struct (S:=TSlot) (e:=(cInt.pair cInt)) (ok':=okSlot) (fun x=>(x.dom,x.len)) (fun y=>⟨y.1,y.2⟩) (fun y=>rfl) Tryd.underlying81 (by kernel_rfl) (opensF_cons opens_int3 (opensF_one opens_int3) rfl) (fun y h=>by
  simp only [okSlot]
  try simp only [okAny,true_and,and_true] at h
  exact h)).conv rfl (fun I w cs x h=>by
  simp only [Cod.via,Cod.pair,cInt,cBool,Cod.flat] at h
  obtain ⟨_,_,rfl,rfl,rfl⟩:=h
  rfl)
end Go.Proofs.YtinlmkhlgclbfabDoor
end

section
namespace Go.Proofs.YtinlmkhlgclbfabDoor
open Go.ChangeShapes Go.WideShapes Go.ChangeAt Go.RowKit Go.Deep
set_option maxRecDepth 100000
def okTask (x:TTask):Prop:=okInt x.dom∧okInt x.period∧okInt x.budget∧okInt x.dead
theorem opens_task:Opens Tryd.prog cTask okTask 83:=
 (opens_struct (S:=TTask) (e:=(cInt.pair (cInt.pair (cInt.pair cInt)))) (ok':=okTask) (fun x=>(x.dom,x.period,x.budget,x.dead)) (fun y=>⟨y.1,y.2.1,y.2.2.1,y.2.2.2⟩) (fun y=>rfl) Tryd.underlying83 (by kernel_rfl) (opensF_cons opens_int3 (opensF_cons opens_int3 (opensF_cons opens_int3 (opensF_one opens_int3) rfl) rfl) rfl) (fun y h=>by
  simp only [okTask]
  try simp only [okAny,true_and,and_true] at h
  exact h)).conv rfl (fun I w cs x h=>by
  simp only [Cod.via,Cod.pair,cInt,cBool,Cod.flat] at h
  obtain ⟨_,_,rfl,rfl,⟨_,_,rfl,rfl,⟨_,_,rfl,rfl,rfl⟩⟩⟩:=h
  rfl)
end Go.Proofs.YtinlmkhlgclbfabDoor
end

section
namespace Go.Proofs.YtinlmkhlgclbfabDoor
open Go.ChangeShapes Go.WideShapes Go.ChangeAt Go.RowKit Go.Deep
set_option maxRecDepth 100000
def okCfg (x:TCfg):Prop:=okInt x.sets∧okInt x.ways∧okInt x.doms∧okInt x.pad∧okInt x.quantum∧okList okSlot 16 x.slots∧okList okInt 8 x.owners∧okList okChan 24 x.chans∧okList okTask 32 x.tasks
theorem opens_cfg:Opens Tryd.prog cCfg okCfg 27:=
 (opens_struct (S:=TCfg) (e:=(cInt.pair (cInt.pair (cInt.pair (cInt.pair (cInt.pair (cSlot.slice.pair (cInt.slice.pair (cChan.slice.pair cTask.slice))))))))) (ok':=okCfg) (fun x=>(x.sets,x.ways,x.doms,x.pad,x.quantum,x.slots,x.owners,x.chans,x.tasks)) (fun y=>⟨y.1,y.2.1,y.2.2.1,y.2.2.2.1,y.2.2.2.2.1,y.2.2.2.2.2.1,y.2.2.2.2.2.2.1,y.2.2.2.2.2.2.2.1,y.2.2.2.2.2.2.2.2⟩) (fun y=>rfl) Tryd.underlying27 (by kernel_rfl) (opensF_cons opens_int3 (opensF_cons opens_int3 (opensF_cons opens_int3 (opensF_cons opens_int3 (opensF_cons opens_int3 (opensF_cons (opens_slice (bytes:=16) Tryd.underlying22 (by kernel_rfl) (by kernel_rfl) (by decide) opens_slot) (opensF_cons opens_ints (opensF_cons (opens_slice (bytes:=24) Tryd.underlying24 (by kernel_rfl) (by kernel_rfl) (by decide) opens_chan) (opensF_one (opens_slice (bytes:=32) Tryd.underlying25 (by kernel_rfl) (by kernel_rfl) (by decide) opens_task)) rfl) rfl) rfl) rfl) rfl) rfl) rfl) rfl) (fun y h=>h)).conv rfl (fun I w cs x h=>by
  simp only [Cod.via,Cod.pair,Cod.slice,cInt,Cod.flat] at h
  obtain ⟨_,_,rfl,rfl,⟨_,_,rfl,rfl,⟨_,_,rfl,rfl,⟨_,_,rfl,rfl,⟨_,_,rfl,rfl,⟨_,_,rfl,⟨a0,n0,rfl,s0⟩,⟨_,_,rfl,⟨a1,n1,rfl,s1⟩,⟨_,_,rfl,⟨a2,n2,rfl,s2⟩,⟨a3,n3,rfl,s3⟩⟩⟩⟩⟩⟩⟩⟩⟩:=h
  exact ⟨⟨a0,n0,a1,n1,a2,n2,a3,n3⟩,rfl,⟨s0,s1,s2,s3⟩⟩)
end Go.Proofs.YtinlmkhlgclbfabDoor
end

section
namespace Go.Proofs.YtinlmkhlgclbfabDoor
open Go.ChangeShapes Go.WideShapes Go.ChangeAt Go.RowKit Go.Deep
set_option maxRecDepth 100000
def okAct (x:TAct):Prop:=okInt x.kind∧okInt x.n∧okInt x.value
theorem opens_act:Opens Tryd.prog cAct okAct 52:=
 (opens_struct (S:=TAct) (e:=(cInt.pair (cInt.pair cInt))) (ok':=okAct) (fun x=>(x.kind,x.n,x.value)) (fun y=>⟨y.1,y.2.1,y.2.2⟩) (fun y=>rfl) Tryd.underlying52 (by kernel_rfl) (opensF_cons opens_int3 (opensF_cons opens_int3 (opensF_one opens_int3) rfl) rfl) (fun y h=>by
  simp only [okAct]
  try simp only [okAny,true_and,and_true] at h
  exact h)).conv rfl (fun I w cs x h=>by
  simp only [Cod.via,Cod.pair,cInt,cBool,Cod.flat] at h
  obtain ⟨_,_,rfl,rfl,⟨_,_,rfl,rfl,rfl⟩⟩:=h
  rfl)
end Go.Proofs.YtinlmkhlgclbfabDoor
end

section
namespace Go.Proofs.YtinlmkhlgclbfabDoor
open Go.ChangeShapes Go.WideShapes Go.ChangeAt Go.RowKit Go.Deep
set_option maxRecDepth 100000
def okArr (x:TArr):Prop:=okInt x.t∧okInt x.line
theorem opens_arr:Opens Tryd.prog cArr okArr 86:=
 (opens_struct (S:=TArr) (e:=(cInt.pair cInt)) (ok':=okArr) (fun x=>(x.t,x.line)) (fun y=>⟨y.1,y.2⟩) (fun y=>rfl) Tryd.underlying86 (by kernel_rfl) (opensF_cons opens_int3 (opensF_one opens_int3) rfl) (fun y h=>by
  simp only [okArr]
  try simp only [okAny,true_and,and_true] at h
  exact h)).conv rfl (fun I w cs x h=>by
  simp only [Cod.via,Cod.pair,cInt,cBool,Cod.flat] at h
  obtain ⟨_,_,rfl,rfl,rfl⟩:=h
  rfl)
end Go.Proofs.YtinlmkhlgclbfabDoor
end

section
namespace Go.Proofs.YtinlmkhlgclbfabDoor
open Go.ChangeShapes Go.WideShapes Go.ChangeAt Go.RowKit Go.Deep
set_option maxRecDepth 100000
def okScr (x:TScr):Prop:=okList (okList okAct 24) 24 x.actions∧okList okArr 16 x.arrivals∧okInt x.rounds
theorem opens_scr:Opens Tryd.prog cScr okScr 31:=
 (opens_struct (S:=TScr) (e:=(cAct.slice.slice.pair (cArr.slice.pair cInt))) (ok':=okScr) (fun x=>(x.actions,x.arrivals,x.rounds)) (fun y=>⟨y.1,y.2.1,y.2.2⟩) (fun y=>rfl) Tryd.underlying31 (by kernel_rfl) (opensF_cons (opens_slice (bytes:=24) Tryd.underlying28 (by kernel_rfl) (by kernel_rfl) (by decide) (opens_slice (bytes:=24) Tryd.underlying53 (by kernel_rfl) (by kernel_rfl) (by decide) opens_act)) (opensF_cons (opens_slice (bytes:=16) Tryd.underlying29 (by kernel_rfl) (by kernel_rfl) (by decide) opens_arr) (opensF_one opens_int3) rfl) rfl) (fun y h=>h)).conv rfl (fun I w cs x h=>by
  simp only [Cod.via,Cod.pair,Cod.slice,cInt,Cod.flat] at h
  obtain ⟨_,_,rfl,⟨a0,n0,rfl,s0⟩,⟨_,_,rfl,⟨a1,n1,rfl,s1⟩,rfl⟩⟩:=h
  exact ⟨⟨a0,n0,a1,n1⟩,rfl,⟨s0,s1⟩⟩)
end Go.Proofs.YtinlmkhlgclbfabDoor
end

section
namespace Go.Proofs.YtinlmkhlgclbfabDoor
open Go.RowKit Go.Shelf
set_option maxRecDepth 100000
set_option maxHeartbeats 4000000
def ly169_ren:Go.Shelf.Ren:=⟨fun|169=>28|n=>n,fun|70=>88|9=>9|0=>0|72=>91|37=>89|127=>112|3=>3|5=>5|n=>n,fun|n=>n⟩
theorem ly169:Go.Proofs.Lays.n169 Tryd.prog ly169_ren:= {
 mixed:=by kernel_rfl
 f169:=Tryd.func28.trans (congrArg some (by kernel_rfl))
 t0:=Tryd.underlying0
 a0:=Tryd.isAgg0
 z0:=Tryd.sizeOf0
 v0:=Tryd.zeroValue0
 t3:=Tryd.underlying3
 a3:=Tryd.isAgg3
 z3:=Tryd.sizeOf3
 v3:=Tryd.zeroValue3
 t9:=Tryd.underlying9
 a9:=Tryd.isAgg9
 z9:=Tryd.sizeOf9
 v9:=Tryd.zeroValue9
 t37:=Tryd.underlying89
 a37:=Tryd.isAgg89
 z37:=Tryd.sizeOf89
 v37:=Tryd.zeroValue89
 t70:=Tryd.underlying88
 a70:=Tryd.isAgg88
 z70:=Tryd.sizeOf88
 v70:=Tryd.zeroValue88
 t72:=Tryd.underlying91
 a72:=Tryd.isAgg91
 z72:=Tryd.sizeOf91
 v72:=Tryd.zeroValue91
 t127:=Tryd.underlying112
 a127:=Tryd.isAgg112
 z127:=Tryd.sizeOf112
 v127:=Tryd.zeroValue112}
theorem lyX169:Builder.Extra Tryd.prog ly169_ren:= {
 sizeBuilder:=by kernel_rfl
 liesBuilder:=by kernel_rfl
 t5:=Tryd.underlying5
 a5:=Tryd.isAgg5
 z5:=Tryd.sizeOf5
 v5:=Tryd.zeroValue5
 infoByte:=by kernel_rfl
 cellsByte:=by kernel_rfl
 sizeByte:=by kernel_rfl
 neB5:=by decide}
def ly171_ren:Go.Shelf.Ren:=⟨fun|171=>27|243=>41|246=>54|283=>63|284=>64|285=>65|286=>66|129=>76|317=>75|318=>77|319=>78|320=>79|337=>91|338=>92|n=>n,fun|3=>3|9=>9|2=>2|4=>4|171=>141|0=>0|53=>142|37=>89|5=>5|173=>145|212=>155|51=>156|20=>20|213=>157|46=>158|232=>174|233=>175|n=>n,fun|17=>0|18=>1|19=>2|n=>n⟩
theorem ly171:Go.Proofs.LaysM.n171 Tryd.prog ly171_ren:= {
 mixed:=by kernel_rfl
 f129:=Tryd.func76.trans (congrArg some (by kernel_rfl))
 f171:=Tryd.func27.trans (congrArg some (by kernel_rfl))
 f243:=Tryd.func41.trans (congrArg some (by kernel_rfl))
 f246:=Tryd.func54.trans (congrArg some (by kernel_rfl))
 f283:=Tryd.func63.trans (congrArg some (by kernel_rfl))
 f284:=Tryd.func64.trans (congrArg some (by kernel_rfl))
 f285:=Tryd.func65.trans (congrArg some (by kernel_rfl))
 f286:=Tryd.func66.trans (congrArg some (by kernel_rfl))
 f317:=Tryd.func75.trans (congrArg some (by kernel_rfl))
 f318:=Tryd.func77.trans (congrArg some (by kernel_rfl))
 f319:=Tryd.func78.trans (congrArg some (by kernel_rfl))
 f320:=Tryd.func79.trans (congrArg some (by kernel_rfl))
 f337:=Tryd.func91.trans (congrArg some (by kernel_rfl))
 f338:=Tryd.func92.trans (congrArg some (by kernel_rfl))
 t0:=Tryd.underlying0
 a0:=Tryd.isAgg0
 z0:=Tryd.sizeOf0
 v0:=Tryd.zeroValue0
 t2:=Tryd.underlying2
 a2:=Tryd.isAgg2
 z2:=Tryd.sizeOf2
 v2:=Tryd.zeroValue2
 t3:=Tryd.underlying3
 a3:=Tryd.isAgg3
 z3:=Tryd.sizeOf3
 v3:=Tryd.zeroValue3
 t4:=Tryd.underlying4
 a4:=Tryd.isAgg4
 z4:=Tryd.sizeOf4
 v4:=Tryd.zeroValue4
 t5:=Tryd.underlying5
 a5:=Tryd.isAgg5
 z5:=Tryd.sizeOf5
 v5:=Tryd.zeroValue5
 t9:=Tryd.underlying9
 a9:=Tryd.isAgg9
 z9:=Tryd.sizeOf9
 v9:=Tryd.zeroValue9
 t20:=Tryd.underlying20
 a20:=Tryd.isAgg20
 z20:=Tryd.sizeOf20
 v20:=Tryd.zeroValue20
 t37:=Tryd.underlying89
 a37:=Tryd.isAgg89
 z37:=Tryd.sizeOf89
 v37:=Tryd.zeroValue89
 t46:=Tryd.underlying158
 a46:=Tryd.isAgg158
 z46:=Tryd.sizeOf158
 v46:=Tryd.zeroValue158
 t51:=Tryd.underlying156
 a51:=Tryd.isAgg156
 z51:=Tryd.sizeOf156
 v51:=Tryd.zeroValue156
 t53:=Tryd.underlying142
 a53:=Tryd.isAgg142
 z53:=Tryd.sizeOf142
 v53:=Tryd.zeroValue142
 t171:=Tryd.underlying141
 a171:=Tryd.isAgg141
 z171:=Tryd.sizeOf141
 v171:=Tryd.zeroValue141
 t173:=Tryd.underlying145
 a173:=Tryd.isAgg145
 z173:=Tryd.sizeOf145
 v173:=Tryd.zeroValue145
 t212:=Tryd.underlying155
 a212:=Tryd.isAgg155
 z212:=Tryd.sizeOf155
 v212:=Tryd.zeroValue155
 t213:=Tryd.underlying157
 a213:=Tryd.isAgg157
 z213:=Tryd.sizeOf157
 t232:=Tryd.underlying174
 a232:=Tryd.isAgg174
 z232:=Tryd.sizeOf174
 v232:=Tryd.zeroValue174
 t233:=Tryd.underlying175
 a233:=Tryd.isAgg175
 z233:=Tryd.sizeOf175
 v233:=Tryd.zeroValue175
 g17:=by kernel_rfl
 g18:=by kernel_rfl
 g19:=by kernel_rfl
 i0:=by kernel_rfl
 i2:=by kernel_rfl
 i3:=by kernel_rfl
 i4:=by kernel_rfl
 i5:=by kernel_rfl
 i9:=by kernel_rfl
 i20:=by kernel_rfl
 i37:=by kernel_rfl
 i46:=by kernel_rfl
 i51:=by kernel_rfl
 i53:=by kernel_rfl
 i171:=by kernel_rfl
 i173:=by kernel_rfl
 i212:=by kernel_rfl
 i232:=by kernel_rfl
 i233:=by kernel_rfl
 m17:=by kernel_rfl
 m18:=by kernel_rfl
 m19:=by kernel_rfl}
def PowTab (w:World):Prop:=∃t fr,w.heap[0]?=some (.cells (Lib.pow10Tab.map fun z=>Value.int .u64 z).toArray t fr)
theorem PowTab.next {w w':World}(h:PowTab w)(hb:Below w.heap.size w w'):PowTab w':=by
 obtain ⟨t,fr,h⟩:=h
 have hl:0 < w.heap.size:=by
  rcases Nat.lt_or_ge 0 w.heap.size with h'|h'
  ·exact h'
  ·rw [Array.getElem?_eq_none h'] at h;cases h
 exact ⟨t,fr,(hb.block _ hl).trans h⟩
theorem itoaCall (n:Int)(h0: -9223372036854775808≤n)(h1:n≤9223372036854775807)(w:World)(h:PowTab w):
  Calls Tryd.prog 27 #[.int .i64 n] w fun e w'=>e= .returned (.string ⟨(Lib.itoa n).toArray⟩)∧Below w.heap.size w w':=by
 obtain ⟨t,fr,h⟩:=h
 refine (Any.strconv_Itoa ly171 n h0 h1 w ?_).mono ?_
 ·unfold Lib.TabIs World.var?
  rw [ly171.m17]
  show (match w.heap[0]? with|some (.cells cs _ _)=>some cs|_=>none)=_
  rw [h]
 ·rintro e w' ⟨rfl,k,os,rfl⟩
  exact ⟨rfl,rfl,rfl,rfl,by simp [Go.Sort.grow],fun j hj=>by show (w.heap++os)[j]?=_;rw [Array.getElem?_append_left hj]⟩
theorem builderString (B b:Nat)(l:List UInt8)(w:World)(h:Lib.IsBuilder 91 5 B b (Lib.byteCells l) w)(hB:B≤w.heap.size):
  Calls Tryd.prog 28 #[.pointer (some ⟨b,0,none⟩)] w fun e w'=>e= .returned (.string ⟨l.toArray⟩)∧Below B w w':=Any.Builder_String_any ly169 lyX169 B b l w h hB
theorem bldInfo:(Tryd.prog.info? 91).map (·.size)=some 2:=by kernel_rfl
theorem bldLies:liesAt Tryd.prog Tryd.prog.depth 91 (2 / Tryd.prog.cellsOf 91) 0 91 1=true:=by kernel_rfl
theorem bldUsed (b:Nat)(w:World)(h0:w.cell? ⟨b,0,none⟩=some (.pointer (some ⟨b,0,none⟩))):
  Calls Tryd.prog 40 #[.pointer (some ⟨b,0,none⟩)] w fun e w'=>e= .returned (.tuple #[])∧w'=w:=by
 obtain ⟨j,hj,_⟩:=Option.map_eq_some_iff.1 bldInfo
 go_enter Tryd.func40,Tryd.ntmps40
 go_wp2
 rw [Lib.run_neq_ptr_same w _ Tryd.underlying88 hj]
 go_wp2
 go_end0
 exact ⟨rfl,rfl⟩
theorem bldFresh (b:Nat)(w:World)(h0:w.cell? ⟨b,0,none⟩=some (.pointer none))(hsh:w.shape? b=some (91,2))(hfz:w.frozen? ⟨b,0,none⟩=false):
  Calls Tryd.prog 40 #[.pointer (some ⟨b,0,none⟩)] w fun e w'=>e= .returned (.tuple #[])∧w'=w.setCell ⟨b,0,none⟩ (.pointer (some ⟨b,0,none⟩)):=by
 obtain ⟨j,hj,hjs⟩:=Option.map_eq_some_iff.1 bldInfo
 go_enter Tryd.func40,Tryd.ntmps40
 go_wp2
 rw [Lib.run_to_unsafe w ⟨b,0,none⟩ Tryd.underlying88 Tryd.underlying125 hj (by rw [hjs];decide) hsh (Nat.zero_lt_succ 1)]
 simp only [Result.andThen]
 rw [Oper.upon_value]
 go_wp2
 rw [run_callFunc_extern Tryd.func53 (by kernel_rfl) (by kernel_rfl) (by kernel_rfl) (e:=Extern.AbiNoEscape.same) (by kernel_rfl)]
 rw [Lib.run_noEscape]
 simp only [Result.andThen]
 rw [Oper.upon_value]
 go_wp2
 rw [Lib.run_from_unsafe w ⟨b,0,none⟩ Tryd.underlying125 Tryd.underlying88 hj hsh bldLies]
 simp only [Result.andThen]
 rw [Oper.upon_value]
 go_wp2
 go_end0
 exact ⟨rfl,rfl⟩
theorem bldCheck (B b:Nat)(bs:List Value)(w:World)(h:Lib.IsBuilder 91 5 B b bs w):
  Calls Tryd.prog 40 #[.pointer (some ⟨b,0,none⟩)] w fun e w'=>e= .returned (.tuple #[])∧(Lib.BuilderAt 91 5 B b (.pointer (some ⟨b,0,none⟩)) bs w'∧Below B w w'):=by
 rcases h with h|h
 ·refine (bldFresh b w h.cell0 h.shape h.frozen0).mono ?_
  rintro e w' ⟨rfl,rfl⟩
  exact ⟨rfl,h.used _,(Below.refl B w).setCell (p:=⟨b,0,none⟩) h.1 _⟩
 ·refine (bldUsed b w h.cell0).mono ?_
  rintro e w' ⟨rfl,rfl⟩
  exact ⟨rfl,h,Below.refl B _⟩
theorem builderWrite (B b:Nat)(bs:List Value)(s:ByteArray)(w:World)(h:Lib.IsBuilder 91 5 B b bs w)(hlen:bs.length+s.size≤140737488355328)(hBw:B≤w.heap.size):
  Calls Tryd.prog 26 #[.pointer (some ⟨b,0,none⟩),.string s] w fun e w'=>e= .returned (.tuple #[.int .i64 s.size,.nilIface])∧(Lib.BuilderAt 91 5 B b (.pointer (some ⟨b,0,none⟩)) (bs++Lib.strCells s) w'∧Below B w w'):=by
 obtain ⟨i0,hi,hz0,hz1,hz2⟩:=info_parts lyX169.infoByte
 go_enter Tryd.func26,Tryd.ntmps26
 go_wp2_with (go_at_call 40;refine (bldCheck B b bs _ h).mono ?_)
 rintro e w1 ⟨rfl,h1,hb1⟩
 obtain ⟨hB,v,hbk,hown,hne⟩:=h1
 have c0:w1.cell? ⟨b,0,none⟩=some (.pointer (some ⟨b,0,none⟩)):=by rw [Lib.cell_of_heap hbk];rfl
 have c1:w1.cell? ⟨b,1,none⟩=some v:=by rw [Lib.cell_of_heap hbk];rfl
 go_wp2_with (at_builtin;refine Lib.wpList_append_own_string _ rfl _ _ 89 9 rfl B 5 i0 Tryd.underlying89 Tryd.underlying9 hi hz0 hz1 hz2 _ _ _ rfl hown s rfl ?c3 ?c4 ?c5 ?_)
 case c3=>unfold maxLen;omega
 case c4=>omega
 case c5=>have:=hb1.size;omega
 intro v' w2 hown' hgrow _
 have hlt:b < w1.heap.size:=by
  rcases Nat.lt_or_ge b w1.heap.size with h'|h'
  ·exact h'
  ·simp [Array.getElem?_eq_none h'] at hbk
 have hb2:w2.heap[b]?=some (.cells #[.pointer (some ⟨b,0,none⟩),v] 91 (0,0)):=by
  rw [hgrow.block b hlt (fun e=>hne e.symm)]
  exact hbk
 have d0:w2.cell? ⟨b,0,none⟩=some (.pointer (some ⟨b,0,none⟩)):=by rw [Lib.cell_of_heap hb2];rfl
 have d1:w2.cell? ⟨b,1,none⟩=some v:=by rw [Lib.cell_of_heap hb2];rfl
 have f1:w2.frozen? ⟨b,1,none⟩=false:=Lib.frozen_of_heap hb2 1
 obtain ⟨ao,n',cap,rfl⟩:∃ao n' cap,v'= .slice ao n' cap:=by
  rcases hown'.2 with ⟨hv,_⟩|⟨g,cap,cur,hv,_⟩
  ·exact ⟨_,_,_,hv⟩
  ·exact ⟨_,_,_,hv⟩
 go_wp2
 go_ret2
 refine ⟨rfl,?_,?_⟩
 ·exact Lib.BuilderAt.put (T:=91) (e:=5) hB hb2 (bs':=bs++Lib.strCells s) (by simpa [Lib.strCells_length] using hown') lyX169.neB5
 ·exact (hb1.grown hgrow (by have:=hb1.size;omega) (fun k hk=>(hown.lt k hk).1)).setCell (p:=⟨b,1,none⟩) hB _
end Go.Proofs.YtinlmkhlgclbfabDoor
end
