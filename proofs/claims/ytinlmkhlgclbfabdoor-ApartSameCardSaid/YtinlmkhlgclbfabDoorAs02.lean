/- Data to OwnC -/
import Derived.Test.YtinlmkhlgclbfabDoorAs01
import Derived.Laws.CopyOwn
namespace Go.Proofs.YtinlmkhlgclbfabDoor
open Go.RowKit
section
theorem firstE_zero_iff {n:Nat}{f:Nat→Int} :firstE n f=0↔∀j,j < n→f j=0:=⟨firstE_zero,firstE_none⟩
def diffT {T:Type} [DecidableEq T] (x y:T):Bool:= !decide (x=y)
theorem nth_set {T:Type}[Inhabited T]{xs:List T}{i j:Nat}{x:T}(hj:j < xs.length):nth (xs.set i x) j=if i=j then x else nth xs j:=by
 rw [nth_eq (by simpa using hj),List.getElem_set,nth_eq hj]
theorem nth_set_self {T:Type}[Inhabited T]{xs:List T}{i:Nat}{x:T}(hj:i < xs.length):nth (xs.set i x) i=x:=by rw [nth_set hj,if_pos rfl]
theorem nth_set_ne {T:Type}[Inhabited T]{xs:List T}{i j:Nat}{x:T}(h:i≠j):nth (xs.set i x) j=nth xs j:=by
 unfold nth;rw [List.getD_eq_getElem?_getD,List.getElem?_set_ne h,List.getD_eq_getElem?_getD]
theorem nth_append_left {T:Type}[Inhabited T]{xs ys:List T}{i:Nat}(h:i < xs.length):nth (xs++ys) i=nth xs i:=by
 unfold nth;rw [List.getD_eq_getElem?_getD,List.getElem?_append_left h,List.getD_eq_getElem?_getD]
theorem nth_append_last {T:Type}[Inhabited T]{xs:List T}{x:T} :nth (xs++[x]) xs.length=x:=by
 unfold nth;rw [List.getD_eq_getElem?_getD,List.getElem?_append_right (Nat.le_refl _)];simp
theorem Sl.at_flat {T:Type}[Inhabited T]{k:Nat}{f:T→List Value}{hf:∀x,(f x).length=k}{I:Nat→Prop}{w:World}{A:Option Addr}{c:Nat}{xs:List T}(h:Sl (Cod.flat k f hf) I w A c xs){i:Nat}(hi:i < xs.length):
  ∃b o,A=some ⟨b,o,none⟩∧I b∧∀j u,(f (nth xs i))[j]?=some u→w.cell? ⟨b,o+i*k+j,none⟩=some u:=by
 obtain ⟨b,o,es,hA,hI,rfl,hc⟩:=h.cells hi
 exact ⟨b,o,hA,hI,hc⟩
structure TWay where
 line:Int
 dirty:Bool
 deriving Inhabited,DecidableEq
def TWay.cells (x:TWay):List Value:=[.int .i64 x.line,.bool x.dirty]
def cWay:Cod TWay:= .flat 2 TWay.cells (fun _=>rfl)
theorem Sl.at_way {I:Nat→Prop}{w:World}{A:Option Addr}{c:Nat}{xs:List TWay}(h:Sl cWay I w A c xs){i:Nat}(hi:i < xs.length):
  ∃b o,A=some ⟨b,o,none⟩∧I b∧w.cell? ⟨b,o+i*2,none⟩=some (.int .i64 (nth xs i).line)∧w.cell? ⟨b,o+i*2+1,none⟩=some (.bool (nth xs i).dirty):=by
 obtain ⟨b,o,hA,hI,hc⟩:=Sl.at_flat h hi
 exact ⟨b,o,hA,hI,hc 0 _ rfl,hc 1 _ rfl⟩
theorem one_way:∀(xs:List TWay),∀u∈xs.flatMap TWay.cells,u.oneCell'=true:=by
 intro xs u hu
 simp only [List.mem_flatMap,TWay.cells,List.mem_cons,List.mem_nil_iff,or_false] at hu
 obtain ⟨n,_,h⟩:=hu
 rcases h with rfl|rfl<;>rfl
structure TSlot where
 dom:Int
 len:Int
 deriving Inhabited,DecidableEq
def TSlot.cells (x:TSlot):List Value:=[.int .i64 x.dom,.int .i64 x.len]
def cSlot:Cod TSlot:= .flat 2 TSlot.cells (fun _=>rfl)
theorem Sl.at_slot {I:Nat→Prop}{w:World}{A:Option Addr}{c:Nat}{xs:List TSlot}(h:Sl cSlot I w A c xs){i:Nat}(hi:i < xs.length):
  ∃b o,A=some ⟨b,o,none⟩∧I b∧w.cell? ⟨b,o+i*2,none⟩=some (.int .i64 (nth xs i).dom)∧w.cell? ⟨b,o+i*2+1,none⟩=some (.int .i64 (nth xs i).len):=by
 obtain ⟨b,o,hA,hI,hc⟩:=Sl.at_flat h hi
 exact ⟨b,o,hA,hI,hc 0 _ rfl,hc 1 _ rfl⟩
structure TChan where
 src:Int
 dst:Int
 size:Int
 deriving Inhabited,DecidableEq
def TChan.cells (x:TChan):List Value:=[.int .i64 x.src,.int .i64 x.dst,.int .i64 x.size]
def cChan:Cod TChan:= .flat 3 TChan.cells (fun _=>rfl)
theorem Sl.at_chan {I:Nat→Prop}{w:World}{A:Option Addr}{c:Nat}{xs:List TChan}(h:Sl cChan I w A c xs){i:Nat}(hi:i < xs.length):
  ∃b o,A=some ⟨b,o,none⟩∧I b∧w.cell? ⟨b,o+i*3,none⟩=some (.int .i64 (nth xs i).src)∧w.cell? ⟨b,o+i*3+1,none⟩=some (.int .i64 (nth xs i).dst)∧w.cell? ⟨b,o+i*3+2,none⟩=some (.int .i64 (nth xs i).size):=by
 obtain ⟨b,o,hA,hI,hc⟩:=Sl.at_flat h hi
 exact ⟨b,o,hA,hI,hc 0 _ rfl,hc 1 _ rfl,hc 2 _ rfl⟩
structure TTask where
 dom:Int
 period:Int
 budget:Int
 dead:Int
 deriving Inhabited,DecidableEq
def TTask.cells (x:TTask):List Value:=[.int .i64 x.dom,.int .i64 x.period,.int .i64 x.budget,.int .i64 x.dead]
def cTask:Cod TTask:= .flat 4 TTask.cells (fun _=>rfl)
theorem Sl.at_task {I:Nat→Prop}{w:World}{A:Option Addr}{c:Nat}{xs:List TTask}(h:Sl cTask I w A c xs){i:Nat}(hi:i < xs.length):
  ∃b o,A=some ⟨b,o,none⟩∧I b∧w.cell? ⟨b,o+i*4,none⟩=some (.int .i64 (nth xs i).dom)∧w.cell? ⟨b,o+i*4+1,none⟩=some (.int .i64 (nth xs i).period)∧w.cell? ⟨b,o+i*4+2,none⟩=some (.int .i64 (nth xs i).budget)∧w.cell? ⟨b,o+i*4+3,none⟩=some (.int .i64 (nth xs i).dead):=by
 obtain ⟨b,o,hA,hI,hc⟩:=Sl.at_flat h hi
 exact ⟨b,o,hA,hI,hc 0 _ rfl,hc 1 _ rfl,hc 2 _ rfl,hc 3 _ rfl⟩
structure TArr where
 t:Int
 line:Int
 deriving Inhabited,DecidableEq
def TArr.cells (x:TArr):List Value:=[.int .i64 x.t,.int .i64 x.line]
def cArr:Cod TArr:= .flat 2 TArr.cells (fun _=>rfl)
theorem Sl.at_arr {I:Nat→Prop}{w:World}{A:Option Addr}{c:Nat}{xs:List TArr}(h:Sl cArr I w A c xs){i:Nat}(hi:i < xs.length):
  ∃b o,A=some ⟨b,o,none⟩∧I b∧w.cell? ⟨b,o+i*2,none⟩=some (.int .i64 (nth xs i).t)∧w.cell? ⟨b,o+i*2+1,none⟩=some (.int .i64 (nth xs i).line):=by
 obtain ⟨b,o,hA,hI,hc⟩:=Sl.at_flat h hi
 exact ⟨b,o,hA,hI,hc 0 _ rfl,hc 1 _ rfl⟩
structure TAct where
 kind:Int
 n:Int
 value:Int
 deriving Inhabited,DecidableEq
def TAct.cells (x:TAct):List Value:=[.int .i64 x.kind,.int .i64 x.n,.int .i64 x.value]
def cAct:Cod TAct:= .flat 3 TAct.cells (fun _=>rfl)
theorem Sl.at_act {I:Nat→Prop}{w:World}{A:Option Addr}{c:Nat}{xs:List TAct}(h:Sl cAct I w A c xs){i:Nat}(hi:i < xs.length):
  ∃b o,A=some ⟨b,o,none⟩∧I b∧w.cell? ⟨b,o+i*3,none⟩=some (.int .i64 (nth xs i).kind)∧w.cell? ⟨b,o+i*3+1,none⟩=some (.int .i64 (nth xs i).n)∧w.cell? ⟨b,o+i*3+2,none⟩=some (.int .i64 (nth xs i).value):=by
 obtain ⟨b,o,hA,hI,hc⟩:=Sl.at_flat h hi
 exact ⟨b,o,hA,hI,hc 0 _ rfl,hc 1 _ rfl,hc 2 _ rfl⟩
theorem one_act:∀(xs:List TAct),∀u∈xs.flatMap TAct.cells,u.oneCell'=true:=by
 intro xs u hu
 simp only [List.mem_flatMap,TAct.cells,List.mem_cons,List.mem_nil_iff,or_false] at hu
 obtain ⟨n,_,h⟩:=hu
 rcases h with rfl|rfl|rfl<;>rfl
structure TJob where
 task:Int
 number:Int
 released:Int
 used:Int
 ran:Bool
 missed:Bool
 deriving Inhabited,DecidableEq
def TJob.cells (x:TJob):List Value:=[.int .i64 x.task,.int .i64 x.number,.int .i64 x.released,.int .i64 x.used,.bool x.ran,.bool x.missed]
def cJob:Cod TJob:= .flat 6 TJob.cells (fun _=>rfl)
theorem Sl.at_job {I:Nat→Prop}{w:World}{A:Option Addr}{c:Nat}{xs:List TJob}(h:Sl cJob I w A c xs){i:Nat}(hi:i < xs.length):
  ∃b o,A=some ⟨b,o,none⟩∧I b∧w.cell? ⟨b,o+i*6,none⟩=some (.int .i64 (nth xs i).task)∧w.cell? ⟨b,o+i*6+1,none⟩=some (.int .i64 (nth xs i).number)∧w.cell? ⟨b,o+i*6+2,none⟩=some (.int .i64 (nth xs i).released)∧w.cell? ⟨b,o+i*6+3,none⟩=some (.int .i64 (nth xs i).used)∧w.cell? ⟨b,o+i*6+4,none⟩=some (.bool (nth xs i).ran)∧w.cell? ⟨b,o+i*6+5,none⟩=some (.bool (nth xs i).missed):=by
 obtain ⟨b,o,hA,hI,hc⟩:=Sl.at_flat h hi
 exact ⟨b,o,hA,hI,hc 0 _ rfl,hc 1 _ rfl,hc 2 _ rfl,hc 3 _ rfl,hc 4 _ rfl,hc 5 _ rfl⟩
theorem one_job:∀(xs:List TJob),∀u∈xs.flatMap TJob.cells,u.oneCell'=true:=by
 intro xs u hu
 simp only [List.mem_flatMap,TJob.cells,List.mem_cons,List.mem_nil_iff,or_false] at hu
 obtain ⟨n,_,h⟩:=hu
 rcases h with rfl|rfl|rfl|rfl|rfl|rfl<;>rfl
structure TEv where
 t:Int
 kind:Int
 a:Int
 b:Int
 deriving Inhabited,DecidableEq
def TEv.cells (x:TEv):List Value:=[.int .i64 x.t,.int .i64 x.kind,.int .i64 x.a,.int .i64 x.b]
def cEv:Cod TEv:= .flat 4 TEv.cells (fun _=>rfl)
theorem Sl.at_ev {I:Nat→Prop}{w:World}{A:Option Addr}{c:Nat}{xs:List TEv}(h:Sl cEv I w A c xs){i:Nat}(hi:i < xs.length):
  ∃b o,A=some ⟨b,o,none⟩∧I b∧w.cell? ⟨b,o+i*4,none⟩=some (.int .i64 (nth xs i).t)∧w.cell? ⟨b,o+i*4+1,none⟩=some (.int .i64 (nth xs i).kind)∧w.cell? ⟨b,o+i*4+2,none⟩=some (.int .i64 (nth xs i).a)∧w.cell? ⟨b,o+i*4+3,none⟩=some (.int .i64 (nth xs i).b):=by
 obtain ⟨b,o,hA,hI,hc⟩:=Sl.at_flat h hi
 exact ⟨b,o,hA,hI,hc 0 _ rfl,hc 1 _ rfl,hc 2 _ rfl,hc 3 _ rfl⟩
theorem one_ev:∀(xs:List TEv),∀u∈xs.flatMap TEv.cells,u.oneCell'=true:=by
 intro xs u hu
 simp only [List.mem_flatMap,TEv.cells,List.mem_cons,List.mem_nil_iff,or_false] at hu
 obtain ⟨n,_,h⟩:=hu
 rcases h with rfl|rfl|rfl|rfl<;>rfl
structure TRing where
 vals:List Int
 lost:Int
 deriving Inhabited,DecidableEq
def cRing:Cod TRing where
 size:=2
 rel:=fun I w cs x=>∃A c,cs=[.slice A x.vals.length c,.int .i64 x.lost]∧Sl cInt I w A c x.vals
 len:=fun {_ _ _ _} ⟨_,_,h,_⟩=>by rw [h];rfl
 keep:=fun ⟨A,c,h,hs⟩ hk=>⟨A,c,h,hs.keep hk⟩
 mono:=fun ⟨A,c,h,hs⟩ hk=>⟨A,c,h,hs.mono hk⟩
theorem Sl.at_ring {I:Nat→Prop}{w:World}{A:Option Addr}{c:Nat}{xs:List TRing}(h:Sl cRing I w A c xs){i:Nat}(hi:i < xs.length):
  ∃b o A' c',A=some ⟨b,o,none⟩∧I b∧w.cell? ⟨b,o+i*2,none⟩=some (.slice A' (nth xs i).vals.length c')∧w.cell? ⟨b,o+i*2+1,none⟩=some (.int .i64 (nth xs i).lost)∧Sl cInt I w A' c' (nth xs i).vals:=by
 obtain ⟨b,o,es,hA,hI,⟨A',c',rfl,hs⟩,hc⟩:=h.cells hi
 exact ⟨b,o,A',c',hA,hI,hc 0 _ rfl,hc 1 _ rfl,hs⟩
structure TCfg where
 sets:Int
 ways:Int
 doms:Int
 pad:Int
 quantum:Int
 slots:List TSlot
 owners:List Int
 chans:List TChan
 tasks:List TTask
 deriving Inhabited,DecidableEq
structure TCfgS where
 a0:Option Addr
 n0:Nat
 a1:Option Addr
 n1:Nat
 a2:Option Addr
 n2:Nat
 a3:Option Addr
 n3:Nat
structure TCfg.At (I:Nat→Prop) (w:World) (x:TCfg) (S:TCfgS):Prop where
 s0:Sl cSlot I w S.a0 S.n0 x.slots
 s1:Sl cInt I w S.a1 S.n1 x.owners
 s2:Sl cChan I w S.a2 S.n2 x.chans
 s3:Sl cTask I w S.a3 S.n3 x.tasks
def TCfg.cells (x:TCfg) (S:TCfgS):List Value:=[.int .i64 x.sets,.int .i64 x.ways,.int .i64 x.doms,.int .i64 x.pad,.int .i64 x.quantum,.slice S.a0 x.slots.length S.n0,.slice S.a1 x.owners.length S.n1,.slice S.a2 x.chans.length S.n2,.slice S.a3 x.tasks.length S.n3]
theorem TCfg.At.keep {I:Nat→Prop}{w w':World}{x:TCfg}{S:TCfgS}(h:TCfg.At I w x S)(hk:∀b,I b→w'.heap[b]?=w.heap[b]?):TCfg.At I w' x S:=⟨h.s0.keep hk,h.s1.keep hk,h.s2.keep hk,h.s3.keep hk⟩
theorem TCfg.At.mono {I J:Nat→Prop}{w:World}{x:TCfg}{S:TCfgS}(h:TCfg.At I w x S)(hk:∀b,I b→J b):TCfg.At J w x S:=⟨h.s0.mono hk,h.s1.mono hk,h.s2.mono hk,h.s3.mono hk⟩
theorem TCfg.At.next {B:Nat}{w w':World}{x:TCfg}{S:TCfgS}(h:TCfg.At (Low B) w x S)(hB:B≤w.heap.size)(hb:Below w.heap.size w w'):TCfg.At (Low B) w' x S:=h.keep fun b hI=>hb.block b (Nat.lt_of_lt_of_le hI hB)
theorem TCfg.At.keepI {I:Nat→Prop}{w w':World}{x:TCfg}{S:TCfgS}(h:TCfg.At I w x S)(hk:KeepI I w w'):TCfg.At I w' x S:=h.keep hk
theorem TCfg.At.rng {a b B:Nat}{w:World}{x:TCfg}{S:TCfgS}(h:TCfg.At (Rng a b) w x S)(hB:b≤B):TCfg.At (Low B) w x S:=h.mono fun _ hk=>Nat.lt_of_lt_of_le hk.2 hB
theorem TCfg.At.up {B B':Nat}{w:World}{x:TCfg}{S:TCfgS}(h:TCfg.At (Low B) w x S)(hB:B≤B'):TCfg.At (Low B') w x S:=h.mono fun _ hk=>Nat.lt_of_lt_of_le hk hB
def cCfg:Cod TCfg where
 size:=9
 rel:=fun I w cs x=>∃S,cs=x.cells S∧TCfg.At I w x S
 len:=fun {_ _ _ _} ⟨_,h,_⟩=>by rw [h];rfl
 keep:=fun ⟨S,h,hs⟩ hk=>⟨S,h,hs.keep hk⟩
 mono:=fun ⟨S,h,hs⟩ hk=>⟨S,h,hs.mono hk⟩
structure TDom where
 jobs:List TJob
 released:List Int
 next:Int
 ins:List TRing
 taken:List Int
 outs:List (List Int)
 events:List TEv
 deriving Inhabited,DecidableEq
structure TDomS where
 a0:Option Addr
 n0:Nat
 a1:Option Addr
 n1:Nat
 a2:Option Addr
 n2:Nat
 a3:Option Addr
 n3:Nat
 a4:Option Addr
 n4:Nat
 a5:Option Addr
 n5:Nat
structure TDom.At (I:Nat→Prop) (w:World) (x:TDom) (S:TDomS):Prop where
 s0:Sl cJob I w S.a0 S.n0 x.jobs
 s1:Sl cInt I w S.a1 S.n1 x.released
 s2:Sl cRing I w S.a2 S.n2 x.ins
 s3:Sl cInt I w S.a3 S.n3 x.taken
 s4:Sl cInt.slice I w S.a4 S.n4 x.outs
 s5:Sl cEv I w S.a5 S.n5 x.events
def TDom.cells (x:TDom) (S:TDomS):List Value:=[.slice S.a0 x.jobs.length S.n0,.slice S.a1 x.released.length S.n1,.int .i64 x.next,.slice S.a2 x.ins.length S.n2,.slice S.a3 x.taken.length S.n3,.slice S.a4 x.outs.length S.n4,.slice S.a5 x.events.length S.n5]
theorem TDom.At.keep {I:Nat→Prop}{w w':World}{x:TDom}{S:TDomS}(h:TDom.At I w x S)(hk:∀b,I b→w'.heap[b]?=w.heap[b]?):TDom.At I w' x S:=⟨h.s0.keep hk,h.s1.keep hk,h.s2.keep hk,h.s3.keep hk,h.s4.keep hk,h.s5.keep hk⟩
theorem TDom.At.mono {I J:Nat→Prop}{w:World}{x:TDom}{S:TDomS}(h:TDom.At I w x S)(hk:∀b,I b→J b):TDom.At J w x S:=⟨h.s0.mono hk,h.s1.mono hk,h.s2.mono hk,h.s3.mono hk,h.s4.mono hk,h.s5.mono hk⟩
theorem TDom.At.next {B:Nat}{w w':World}{x:TDom}{S:TDomS}(h:TDom.At (Low B) w x S)(hB:B≤w.heap.size)(hb:Below w.heap.size w w'):TDom.At (Low B) w' x S:=h.keep fun b hI=>hb.block b (Nat.lt_of_lt_of_le hI hB)
theorem TDom.At.keepI {I:Nat→Prop}{w w':World}{x:TDom}{S:TDomS}(h:TDom.At I w x S)(hk:KeepI I w w'):TDom.At I w' x S:=h.keep hk
theorem TDom.At.rng {a b B:Nat}{w:World}{x:TDom}{S:TDomS}(h:TDom.At (Rng a b) w x S)(hB:b≤B):TDom.At (Low B) w x S:=h.mono fun _ hk=>Nat.lt_of_lt_of_le hk.2 hB
theorem TDom.At.up {B B':Nat}{w:World}{x:TDom}{S:TDomS}(h:TDom.At (Low B) w x S)(hB:B≤B'):TDom.At (Low B') w x S:=h.mono fun _ hk=>Nat.lt_of_lt_of_le hk hB
def cDom:Cod TDom where
 size:=7
 rel:=fun I w cs x=>∃S,cs=x.cells S∧TDom.At I w x S
 len:=fun {_ _ _ _} ⟨_,h,_⟩=>by rw [h];rfl
 keep:=fun ⟨S,h,hs⟩ hk=>⟨S,h,hs.keep hk⟩
 mono:=fun ⟨S,h,hs⟩ hk=>⟨S,h,hs.mono hk⟩
structure TScr where
 actions:List (List TAct)
 arrivals:List TArr
 rounds:Int
 deriving Inhabited,DecidableEq
structure TScrS where
 a0:Option Addr
 n0:Nat
 a1:Option Addr
 n1:Nat
structure TScr.At (I:Nat→Prop) (w:World) (x:TScr) (S:TScrS):Prop where
 s0:Sl cAct.slice I w S.a0 S.n0 x.actions
 s1:Sl cArr I w S.a1 S.n1 x.arrivals
def TScr.cells (x:TScr) (S:TScrS):List Value:=[.slice S.a0 x.actions.length S.n0,.slice S.a1 x.arrivals.length S.n1,.int .i64 x.rounds]
theorem TScr.At.keep {I:Nat→Prop}{w w':World}{x:TScr}{S:TScrS}(h:TScr.At I w x S)(hk:∀b,I b→w'.heap[b]?=w.heap[b]?):TScr.At I w' x S:=⟨h.s0.keep hk,h.s1.keep hk⟩
theorem TScr.At.mono {I J:Nat→Prop}{w:World}{x:TScr}{S:TScrS}(h:TScr.At I w x S)(hk:∀b,I b→J b):TScr.At J w x S:=⟨h.s0.mono hk,h.s1.mono hk⟩
theorem TScr.At.next {B:Nat}{w w':World}{x:TScr}{S:TScrS}(h:TScr.At (Low B) w x S)(hB:B≤w.heap.size)(hb:Below w.heap.size w w'):TScr.At (Low B) w' x S:=h.keep fun b hI=>hb.block b (Nat.lt_of_lt_of_le hI hB)
theorem TScr.At.keepI {I:Nat→Prop}{w w':World}{x:TScr}{S:TScrS}(h:TScr.At I w x S)(hk:KeepI I w w'):TScr.At I w' x S:=h.keep hk
theorem TScr.At.rng {a b B:Nat}{w:World}{x:TScr}{S:TScrS}(h:TScr.At (Rng a b) w x S)(hB:b≤B):TScr.At (Low B) w x S:=h.mono fun _ hk=>Nat.lt_of_lt_of_le hk.2 hB
theorem TScr.At.up {B B':Nat}{w:World}{x:TScr}{S:TScrS}(h:TScr.At (Low B) w x S)(hB:B≤B'):TScr.At (Low B') w x S:=h.mono fun _ hk=>Nat.lt_of_lt_of_le hk hB
def cScr:Cod TScr where
 size:=3
 rel:=fun I w cs x=>∃S,cs=x.cells S∧TScr.At I w x S
 len:=fun {_ _ _ _} ⟨_,h,_⟩=>by rw [h];rfl
 keep:=fun ⟨S,h,hs⟩ hk=>⟨S,h,hs.keep hk⟩
 mono:=fun ⟨S,h,hs⟩ hk=>⟨S,h,hs.mono hk⟩
theorem own_keep {w w':World}{base:Nat}{e:TypeId}{size:Nat}{v:Value}{n:Nat}{xs:List Value}(h:w.ownsRow base e size v n xs)(hk:∀b,v.ownBlock=some b→w'.heap[b]?=w.heap[b]?):w'.ownsRow base e size v n xs:=by
 obtain ⟨h1,h2⟩:=h
 refine ⟨h1,?_⟩
 rcases h2 with h2|⟨g,cap,cur,rfl,hb,hg,h3⟩
 ·exact Or.inl h2
 ·exact Or.inr ⟨g,cap,cur,rfl,hb,(hk g rfl).trans hg,h3⟩
theorem own_lt {w:World}{base:Nat}{e:TypeId}{size:Nat}{v:Value}{n:Nat}{xs:List Value}(h:w.ownsRow base e size v n xs):∀b,v.ownBlock=some b→base≤b∧b < w.heap.size:=by
 intro b hb
 obtain ⟨_,h2⟩:=h
 rcases h2 with ⟨rfl,_⟩|⟨g,cap,cur,rfl,hbb,hg,_⟩
 ·cases hb
 ·cases hb
  exact ⟨hbb,(Array.getElem?_eq_some_iff.1 hg).1⟩
theorem KeepI.grown {I:Nat→Prop}{w v w':World}{row:Option Nat}(h:KeepI I w v)(hg:v.grownBy w' row)(hI:∀k,I k→k < v.heap.size∧row≠some k):KeepI I w w':=
 fun k hk=>(hg.block k (hI k hk).1 (Ne.symm (hI k hk).2)).trans (h k hk)
structure OCod (T:Type) where
 cod:Cod T
 rel:(Nat→Prop)→World→List Value→T→Prop
 toRead:∀ {F w cs x},rel F w cs x→cod.rel F w cs x
 keep:∀ {F w w' cs x},rel F w cs x→(∀b,F b→w'.heap[b]?=w.heap[b]?)→rel F w' cs x
 mono:∀ {F G w cs x},rel F w cs x→(∀b,F b→G b)→rel G w cs x
def OCod.flat {T:Type} (k:Nat) (f:T→List Value) (h:∀x,(f x).length=k):OCod T where
 cod:=Cod.flat k f h
 rel:=fun _ _ cs x=>cs=f x
 toRead:=fun h=>h
 keep:=fun h _=>h
 mono:=fun h _=>h
def OSl {T:Type} (e:OCod T) (E:TypeId) (F:Nat→Prop) (w:World) (v:Value) (xs:List T):Prop:=
 ∃(ess:List (List Value)) (G:Nat→Nat→Prop),ess.length=xs.length∧w.ownsRow 0 E e.cod.size v xs.length ess.flatten∧(∀b,v.ownBlock=some b→F b)∧
  (∀i es x,ess[i]?=some es→xs[i]?=some x→e.rel (G i) w es x)∧(∀i b,G i b→F b∧v.ownBlock≠some b)∧(∀i j b,i≠j→G i b→¬ G j b)
theorem flatten_slot {T:Type}{k:Nat} :∀(ess:List (List T)) (i:Nat) (es:List T),(∀e∈ess,e.length=k)→ess[i]?=some es→∀j u,es[j]?=some u→ess.flatten[i*k+j]?=some u:=by
 intro ess
 induction ess with
 |nil=>intro i es _ h;simp at h
 |cons a l ih=>
  intro i es hk hi j u hu
  cases i with
  |zero=>
   simp at hi;subst hi
   rw [List.flatten_cons,Nat.zero_mul,Nat.zero_add,List.getElem?_append_left (by have:=(List.getElem?_eq_some_iff.1 hu).1;exact this)]
   exact hu
  |succ i=>
   have ha:=hk a (by simp)
   rw [List.flatten_cons,List.getElem?_append_right (by rw [ha,Nat.add_mul];omega),ha]
   rw [show (i+1)*k+j - k=i*k+j by rw [Nat.add_mul];omega]
   exact ih i es (fun e he=>hk e (by simp [he])) (by simpa using hi) j u hu
theorem OSl.keep {T:Type}{e:OCod T}{E:TypeId}{F:Nat→Prop}{w w':World}{v:Value}{xs:List T}(h:OSl e E F w v xs)(hk:∀b,F b→w'.heap[b]?=w.heap[b]?):OSl e E F w' v xs:=by
 obtain ⟨ess,G,h1,h2,h3,h4,h5,h6⟩:=h
 exact ⟨ess,G,h1,own_keep h2 fun b hb=>hk b (h3 b hb),h3,fun i es x hi hx=>e.keep (h4 i es x hi hx) fun b hb=>hk b (h5 i b hb).1,h5,h6⟩
theorem OSl.keepI {T:Type}{e:OCod T}{E:TypeId}{F:Nat→Prop}{w w':World}{v:Value}{xs:List T}(h:OSl e E F w v xs)(hk:KeepI F w w'):OSl e E F w' v xs:=h.keep hk
theorem OSl.mono {T:Type}{e:OCod T}{E:TypeId}{F G:Nat→Prop}{w:World}{v:Value}{xs:List T}(h:OSl e E F w v xs)(hk:∀b,F b→G b):OSl e E G w v xs:=by
 obtain ⟨ess,G',h1,h2,h3,h4,h5,h6⟩:=h
 exact ⟨ess,G',h1,h2,fun b hb=>hk b (h3 b hb),h4,fun i b hb=>⟨hk b (h5 i b hb).1,(h5 i b hb).2⟩,h6⟩
theorem OSl.nil {T:Type}(e:OCod T)(E:TypeId)(F:Nat→Prop)(w:World):OSl e E F w (.slice none 0 0) []:=
 ⟨[],fun _ _=>False,rfl,⟨by simp,.inl ⟨rfl,rfl⟩⟩,(fun b hb=>by cases hb),(fun i es x hi=>by simp at hi),fun _ _ h=>h.elim,fun _ _ _ _ h=>h.elim⟩
theorem OSl.form {T:Type}{e:OCod T}{E:TypeId}{F:Nat→Prop}{w:World}{v:Value}{xs:List T}(h:OSl e E F w v xs):∃A c,v= .slice A xs.length c:=by
 obtain ⟨ess,G,h1,h2,_⟩:=h
 obtain ⟨A,c,hv,_⟩:=own_form h2
 exact ⟨A,c,hv⟩
theorem ess_len {T:Type}{e:OCod T}{F:Nat→Nat→Prop}{w:World}{xs:List T}{ess:List (List Value)}(h1:ess.length=xs.length)(h4:∀i es x,ess[i]?=some es→xs[i]?=some x→e.rel (F i) w es x):∀es∈ess,es.length=e.cod.size:=by
 intro es hes
 obtain ⟨i,hi,rfl⟩:=List.getElem_of_mem hes
 exact e.cod.len (e.toRead (h4 i ess[i] xs[i] (List.getElem?_eq_getElem hi) (List.getElem?_eq_getElem (by omega))))
theorem OSl.read {T:Type}{e:OCod T}{E:TypeId}{F:Nat→Prop}{w:World}{A:Option Addr}{n c:Nat}{xs:List T}(h:OSl e E F w (.slice A n c) xs):Sl e.cod F w A c xs:=by
 obtain ⟨ess,G,h1,h2,h3,h4,h5,h6⟩:=h
 have hlen:=ess_len h1 h4
 obtain ⟨A',c',hv,hn,hm,hnil,_,hcase⟩:=own_form h2
 injection hv with e1 e2 e3
 subst e1;subst e3
 refine ⟨hn,hm,hnil,fun i hi=>?_⟩
 rcases hcase with ⟨_,h0,_⟩|⟨g,rfl,_,_,hc⟩
 ·omega
 ·have hi':i < ess.length:=by omega
  refine ⟨g,0,ess[i],rfl,h3 g rfl,e.cod.mono (e.toRead (h4 i ess[i] xs[i] (List.getElem?_eq_getElem hi') (List.getElem?_eq_getElem hi))) fun b hb=>(h5 i b hb).1,fun j u hu=>?_⟩
  have:=hc (i*e.cod.size+j) u (flatten_slot ess i ess[i] hlen (List.getElem?_eq_getElem hi') j u hu)
  rwa [show 0+i*e.cod.size+j=0+(i*e.cod.size+j) by omega]
def OCod.slice {T:Type} (E:TypeId) (e:OCod T):OCod (List T) where
 cod:=e.cod.slice
 rel:=fun F w cs xs=>∃v,cs=[v]∧OSl e E F w v xs
 toRead:=fun {F w cs x} ⟨v,h,hs⟩=>by
  obtain ⟨A,c,rfl⟩:=hs.form
  exact ⟨A,c,h,hs.read⟩
 keep:=fun ⟨v,h,hs⟩ hk=>⟨v,h,hs.keep hk⟩
 mono:=fun ⟨v,h,hs⟩ hk=>⟨v,h,hs.mono hk⟩
theorem osl_flat {T:Type}{k:Nat}{f:T→List Value}{hf:∀x,(f x).length=k}{E:TypeId}{F:Nat→Prop}{w:World}{v:Value}{xs:List T} :
  OSl (OCod.flat k f hf) E F w v xs↔w.ownsRow 0 E k v xs.length (xs.flatMap f)∧∀b,v.ownBlock=some b→F b:=by
 constructor
 ·rintro ⟨ess,G,h1,h2,h3,h4,_⟩
  have:ess=xs.map f:=by
   refine List.ext_getElem? fun i=>?_
   rcases Nat.lt_or_ge i xs.length with hi|hi
   ·have hi':i < ess.length:=by omega
    have:=h4 i ess[i] xs[i] (List.getElem?_eq_getElem hi') (List.getElem?_eq_getElem hi)
    rw [List.getElem?_eq_getElem hi',List.getElem?_map,List.getElem?_eq_getElem hi]
    exact congrArg some this
   ·rw [List.getElem?_eq_none (by omega),List.getElem?_eq_none (by simpa using hi)]
  subst this
  rw [List.flatMap]
  exact ⟨h2,h3⟩
 ·rintro ⟨h2,h3⟩
  refine ⟨xs.map f,fun _ _=>False,by simp,by rw [← List.flatMap];exact h2,h3,fun i es x hi hx=>?_,fun _ _ h=>h.elim,fun _ _ _ _ h=>h.elim⟩
  rw [List.getElem?_map,hx] at hi
  simp at hi
  exact hi.symm
theorem osl_app {T:Type}{e:OCod T}{E:TypeId}{F Fx F':Nat→Prop}{w w':World}{v v':Value}{xs:List T}{x:T}{ess:List (List Value)}{G:Nat→Nat→Prop}{es:List Value}
  (h1:ess.length=xs.length) (h4:∀i es x,ess[i]?=some es→xs[i]?=some x→e.rel (G i) w es x) (h5:∀i b,G i b→F b∧v.ownBlock≠some b) (h6:∀i j b,i≠j→G i b→¬ G j b)
  (hx:e.rel Fx w es x) (hd:∀b,F b→¬ Fx b) (hlt:∀b,F b∨Fx b→b < w.heap.size) (h3:∀b,v.ownBlock=some b→F b)
  (hown:w'.ownsRow 0 E e.cod.size v' (xs.length+1) (ess.flatten++es)) (hg:w.grownBy w' v.ownBlock) (hat:v'.ownBlock=v.ownBlock∨v'.ownBlock=some w.heap.size)
  (hF:∀b,F b∨Fx b→F' b) (hF':∀b,v'.ownBlock=some b→F' b):OSl e E F' w' v' (xs++[x]):=by
 have hne:∀b,F b∨Fx b→v.ownBlock≠some b→v'.ownBlock≠some b:=by
  intro b hb hv
  rcases hat with e1|e1
  ·rw [e1];exact hv
  ·rw [e1];intro e2;injection e2 with e2;have:=hlt b hb;omega
 have hxv:∀b,Fx b→v.ownBlock≠some b:=fun b hb e1=>hd b (h3 b e1) hb
 refine ⟨ess++[es],fun i=>if i=xs.length then Fx else if i < xs.length then G i else fun _=>False,by simp [h1],by simpa using hown,hF',fun i es' x' hi hx'=>?_,fun i b hb=>?_,fun i j b hij hi hj=>?_⟩
 ·dsimp only
  by_cases e1:i=xs.length
  ·subst e1
   rw [if_pos rfl]
   rw [← h1,List.getElem?_append_right (Nat.le_refl _)] at hi
   rw [List.getElem?_append_right (Nat.le_refl _)] at hx'
   simp at hi hx'
   subst hi;subst hx'
   exact e.keep hx fun b hb=>hg.block b (hlt b (.inr hb)) (Ne.symm (hxv b hb))
  ·have hi':i < xs.length:=by have:=(List.getElem?_eq_some_iff.1 hx').1;simp at this;omega
   rw [if_neg e1,if_pos hi']
   rw [List.getElem?_append_left (by omega)] at hi hx'
   exact e.keep (h4 i es' x' hi hx') fun b hb=>hg.block b (hlt b (.inl (h5 i b hb).1)) (Ne.symm (h5 i b hb).2)
 ·dsimp only at hb
  by_cases e1:i=xs.length
  ·rw [if_pos e1] at hb
   exact ⟨hF b (.inr hb),hne b (.inr hb) (hxv b hb)⟩
  ·rw [if_neg e1] at hb
   split at hb
   ·exact ⟨hF b (.inl (h5 i b hb).1),hne b (.inl (h5 i b hb).1) (h5 i b hb).2⟩
   ·exact hb.elim
 ·dsimp only at hi hj
  by_cases e1:i=xs.length
  ·rw [if_pos e1] at hi
   rw [if_neg (by omega)] at hj
   split at hj
   ·exact hd b (h5 j b hj).1 hi
   ·exact hj.elim
  ·rw [if_neg e1] at hi
   split at hi
   ·by_cases e2:j=xs.length
    ·rw [if_pos e2] at hj
     exact hd b (h5 i b hi).1 hj
    ·rw [if_neg e2] at hj
     split at hj
     ·exact h6 i j b hij hi hj
     ·exact hj.elim
   ·exact hi.elim
theorem osl_elem {T:Type}[Inhabited T]{e:OCod T}{E:TypeId}{F:Nat→Prop}{w:World}{v:Value}{xs:List T}(h:OSl e E F w v xs){i:Nat}(hi:i < xs.length):
  ∃g c es Gi,v= .slice (some ⟨g,0,none⟩) xs.length c∧F g∧e.rel Gi w es (nth xs i)∧CellsAt w g (i*e.cod.size) es∧(∀b,Gi b→F b∧b≠g)∧
   (∀w' x',e.rel Gi w' es x'→(∀b,F b→¬ Gi b→w'.heap[b]?=w.heap[b]?)→OSl e E F w' v (xs.set i x')):=by
 obtain ⟨ess,G,h1,h2,h3,h4,h5,h6⟩:=h
 have hlen:=ess_len h1 h4
 have hi':i < ess.length:=by omega
 obtain ⟨A',c',hv,hn,hm,hnil,_,hcase⟩:=own_form h2
 rcases hcase with ⟨_,h0,_⟩|⟨g,rfl,_,_,hc⟩
 ·omega
 ·subst hv
  refine ⟨g,c',ess[i],G i,rfl,h3 g rfl,by rw [nth_eq hi];exact h4 i ess[i] xs[i] (List.getElem?_eq_getElem hi') (List.getElem?_eq_getElem hi),fun j u hu=>?_,fun b hb=>⟨(h5 i b hb).1,fun e1=>(h5 i b hb).2 (by rw [e1];rfl)⟩,fun w' x' hx' hk=>?_⟩
  ·have:=hc (i*e.cod.size+j) u (flatten_slot ess i ess[i] hlen (List.getElem?_eq_getElem hi') j u hu)
   rwa [show i*e.cod.size+j=0+(i*e.cod.size+j) by omega]
  ·refine ⟨ess,G,by simpa using h1,?_,h3,fun j es x hj hx=>?_,h5,h6⟩
   ·rw [List.length_set]
    exact own_keep h2 fun b hb=>hk b (h3 b hb) fun hG=>(h5 i b hG).2 hb
   ·by_cases e1:i=j
    ·subst e1
     rw [List.getElem?_set_self hi] at hx
     rw [List.getElem?_eq_getElem hi'] at hj
     injection hx with hx;injection hj with hj
     subst hx;subst hj
     exact hx'
    ·rw [List.getElem?_set_ne e1] at hx
     exact e.keep (h4 j es x hj hx) fun b hb=>hk b (h5 j b hb).1 fun hG=>h6 j i b (Ne.symm e1) hb hG
theorem osl_step {T:Type}{e:OCod T}{E:TypeId}{F Fx F':Nat→Prop}{w0 w w' w'':World}{v v':Value}{xs:List T}{x:T}{ess:List (List Value)}{G:Nat→Nat→Prop}{es:List Value}
  (h1:ess.length=xs.length) (h4:∀i es x,ess[i]?=some es→xs[i]?=some x→e.rel (G i) w0 es x) (h5:∀i b,G i b→F b∧v.ownBlock≠some b) (h6:∀i j b,i≠j→G i b→¬ G j b)
  (h3:∀b,v.ownBlock=some b→F b) (hg:w.grownBy w' v.ownBlock) (hat:v'.ownBlock=v.ownBlock∨v'.ownBlock=some w.heap.size) (hown:w'.ownsRow 0 E e.cod.size v' (xs.length+1) (ess.flatten++es))
  (hx:e.rel Fx w es x) (hk:KeepI F w0 w) (hd:∀b,F b→¬ Fx b) (hlt:∀b,F b∨Fx b→b < w.heap.size)
  (hF:∀b,F b∨Fx b→F' b) (hF':∀b,b=w.heap.size→b < w'.heap.size→F' b) (hk2:KeepI F' w' w''):OSl e E F' w'' v' (xs++[x]):=
 (osl_app h1 (fun i es x hi hx=>e.keep (h4 i es x hi hx) fun b hb=>hk b (h5 i b hb).1) h5 h6 hx hd hlt h3 hown hg hat hF (fun b hb=>by
  rcases hat with e1|e1
  ·exact hF b (.inl (h3 b (e1.symm.trans hb)))
  ·have hl:=(own_lt hown b hb).2
   rw [e1] at hb;injection hb with hb;exact hF' b hb.symm hl)).keep hk2
end
end Go.Proofs.YtinlmkhlgclbfabDoor
