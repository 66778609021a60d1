/- Data to DomP -/
import Derived.Test.YtinlmkhlgclbfabWv01
namespace Go.Proofs.Ytinlmkhlgclbfab
open Go.RowKit
section
theorem firstE_zero_iff {n:Nat}{f:Nat→Int} :firstE n f=0↔∀j,j < n→f j=0:=⟨firstE_zero,firstE_none⟩
def diffT {T:Type} [DecidableEq T] (x y:T):Bool:= !decide (x=y)
theorem diffT_true {T:Type}[DecidableEq T]{x y:T} :diffT x y=true↔x≠y:=by simp [diffT]
theorem diffT_false {T:Type}[DecidableEq T]{x y:T} :diffT x y=false↔x=y:=by simp [diffT]
theorem nth_set {T:Type}[Inhabited T]{xs:List T}{i j:Nat}{x:T}(hj:j < xs.length):nth (xs.set i x) j=if i=j then x else nth xs j:=by
 rw [nth_eq (by simpa using hj),List.getElem_set,nth_eq hj]
theorem nth_set_self {T:Type}[Inhabited T]{xs:List T}{i:Nat}{x:T}(hj:i < xs.length):nth (xs.set i x) i=x:=by rw [nth_set hj,if_pos rfl]
theorem nth_set_ne {T:Type}[Inhabited T]{xs:List T}{i j:Nat}{x:T}(h:i≠j):nth (xs.set i x) j=nth xs j:=by
 unfold nth;rw [List.getD_eq_getElem?_getD,List.getElem?_set_ne h,List.getD_eq_getElem?_getD]
theorem nth_append_left {T:Type}[Inhabited T]{xs ys:List T}{i:Nat}(h:i < xs.length):nth (xs++ys) i=nth xs i:=by
 unfold nth;rw [List.getD_eq_getElem?_getD,List.getElem?_append_left h,List.getD_eq_getElem?_getD]
theorem nth_append_last {T:Type}[Inhabited T]{xs:List T}{x:T} :nth (xs++[x]) xs.length=x:=by
 unfold nth;rw [List.getD_eq_getElem?_getD,List.getElem?_append_right (Nat.le_refl _)];simp
theorem Sl.at_flat {T:Type}[Inhabited T]{k:Nat}{f:T→List Value}{hf:∀x,(f x).length=k}{I:Nat→Prop}{w:World}{A:Option Addr}{c:Nat}{xs:List T}(h:Sl (Cod.flat k f hf) I w A c xs){i:Nat}(hi:i < xs.length):
  ∃b o,A=some ⟨b,o,none⟩∧I b∧∀j u,(f (nth xs i))[j]?=some u→w.cell? ⟨b,o+i*k+j,none⟩=some u:=by
 obtain ⟨b,o,es,hA,hI,rfl,hc⟩:=h.cells hi
 exact ⟨b,o,hA,hI,hc⟩
structure TWay where
 line:Int
 dirty:Bool
 deriving Inhabited,DecidableEq
def TWay.cells (x:TWay):List Value:=[.int .i64 x.line,.bool x.dirty]
def cWay:Cod TWay:= .flat 2 TWay.cells (fun _=>rfl)
theorem Sl.at_way {I:Nat→Prop}{w:World}{A:Option Addr}{c:Nat}{xs:List TWay}(h:Sl cWay I w A c xs){i:Nat}(hi:i < xs.length):
  ∃b o,A=some ⟨b,o,none⟩∧I b∧w.cell? ⟨b,o+i*2,none⟩=some (.int .i64 (nth xs i).line)∧w.cell? ⟨b,o+i*2+1,none⟩=some (.bool (nth xs i).dirty):=by
 obtain ⟨b,o,hA,hI,hc⟩:=Sl.at_flat h hi
 exact ⟨b,o,hA,hI,hc 0 _ rfl,hc 1 _ rfl⟩
theorem one_way:∀(xs:List TWay),∀u∈xs.flatMap TWay.cells,u.oneCell'=true:=by
 intro xs u hu
 simp only [List.mem_flatMap,TWay.cells,List.mem_cons,List.mem_nil_iff,or_false] at hu
 obtain ⟨n,_,h⟩:=hu
 rcases h with rfl|rfl<;>rfl
structure TSlot where
 dom:Int
 len:Int
 deriving Inhabited,DecidableEq
def TSlot.cells (x:TSlot):List Value:=[.int .i64 x.dom,.int .i64 x.len]
def cSlot:Cod TSlot:= .flat 2 TSlot.cells (fun _=>rfl)
theorem Sl.at_slot {I:Nat→Prop}{w:World}{A:Option Addr}{c:Nat}{xs:List TSlot}(h:Sl cSlot I w A c xs){i:Nat}(hi:i < xs.length):
  ∃b o,A=some ⟨b,o,none⟩∧I b∧w.cell? ⟨b,o+i*2,none⟩=some (.int .i64 (nth xs i).dom)∧w.cell? ⟨b,o+i*2+1,none⟩=some (.int .i64 (nth xs i).len):=by
 obtain ⟨b,o,hA,hI,hc⟩:=Sl.at_flat h hi
 exact ⟨b,o,hA,hI,hc 0 _ rfl,hc 1 _ rfl⟩
structure TChan where
 src:Int
 dst:Int
 size:Int
 deriving Inhabited,DecidableEq
def TChan.cells (x:TChan):List Value:=[.int .i64 x.src,.int .i64 x.dst,.int .i64 x.size]
def cChan:Cod TChan:= .flat 3 TChan.cells (fun _=>rfl)
theorem Sl.at_chan {I:Nat→Prop}{w:World}{A:Option Addr}{c:Nat}{xs:List TChan}(h:Sl cChan I w A c xs){i:Nat}(hi:i < xs.length):
  ∃b o,A=some ⟨b,o,none⟩∧I b∧w.cell? ⟨b,o+i*3,none⟩=some (.int .i64 (nth xs i).src)∧w.cell? ⟨b,o+i*3+1,none⟩=some (.int .i64 (nth xs i).dst)∧w.cell? ⟨b,o+i*3+2,none⟩=some (.int .i64 (nth xs i).size):=by
 obtain ⟨b,o,hA,hI,hc⟩:=Sl.at_flat h hi
 exact ⟨b,o,hA,hI,hc 0 _ rfl,hc 1 _ rfl,hc 2 _ rfl⟩
structure TTask where
 dom:Int
 period:Int
 budget:Int
 dead:Int
 deriving Inhabited,DecidableEq
def TTask.cells (x:TTask):List Value:=[.int .i64 x.dom,.int .i64 x.period,.int .i64 x.budget,.int .i64 x.dead]
def cTask:Cod TTask:= .flat 4 TTask.cells (fun _=>rfl)
theorem Sl.at_task {I:Nat→Prop}{w:World}{A:Option Addr}{c:Nat}{xs:List TTask}(h:Sl cTask I w A c xs){i:Nat}(hi:i < xs.length):
  ∃b o,A=some ⟨b,o,none⟩∧I b∧w.cell? ⟨b,o+i*4,none⟩=some (.int .i64 (nth xs i).dom)∧w.cell? ⟨b,o+i*4+1,none⟩=some (.int .i64 (nth xs i).period)∧w.cell? ⟨b,o+i*4+2,none⟩=some (.int .i64 (nth xs i).budget)∧w.cell? ⟨b,o+i*4+3,none⟩=some (.int .i64 (nth xs i).dead):=by
 obtain ⟨b,o,hA,hI,hc⟩:=Sl.at_flat h hi
 exact ⟨b,o,hA,hI,hc 0 _ rfl,hc 1 _ rfl,hc 2 _ rfl,hc 3 _ rfl⟩
structure TArr where
 t:Int
 line:Int
 deriving Inhabited,DecidableEq
def TArr.cells (x:TArr):List Value:=[.int .i64 x.t,.int .i64 x.line]
def cArr:Cod TArr:= .flat 2 TArr.cells (fun _=>rfl)
structure TAct where
 kind:Int
 n:Int
 value:Int
 deriving Inhabited,DecidableEq
def TAct.cells (x:TAct):List Value:=[.int .i64 x.kind,.int .i64 x.n,.int .i64 x.value]
def cAct:Cod TAct:= .flat 3 TAct.cells (fun _=>rfl)
theorem Sl.at_act {I:Nat→Prop}{w:World}{A:Option Addr}{c:Nat}{xs:List TAct}(h:Sl cAct I w A c xs){i:Nat}(hi:i < xs.length):
  ∃b o,A=some ⟨b,o,none⟩∧I b∧w.cell? ⟨b,o+i*3,none⟩=some (.int .i64 (nth xs i).kind)∧w.cell? ⟨b,o+i*3+1,none⟩=some (.int .i64 (nth xs i).n)∧w.cell? ⟨b,o+i*3+2,none⟩=some (.int .i64 (nth xs i).value):=by
 obtain ⟨b,o,hA,hI,hc⟩:=Sl.at_flat h hi
 exact ⟨b,o,hA,hI,hc 0 _ rfl,hc 1 _ rfl,hc 2 _ rfl⟩
structure TJob where
 task:Int
 number:Int
 released:Int
 used:Int
 ran:Bool
 missed:Bool
 deriving Inhabited,DecidableEq
def TJob.cells (x:TJob):List Value:=[.int .i64 x.task,.int .i64 x.number,.int .i64 x.released,.int .i64 x.used,.bool x.ran,.bool x.missed]
def cJob:Cod TJob:= .flat 6 TJob.cells (fun _=>rfl)
theorem Sl.at_job {I:Nat→Prop}{w:World}{A:Option Addr}{c:Nat}{xs:List TJob}(h:Sl cJob I w A c xs){i:Nat}(hi:i < xs.length):
  ∃b o,A=some ⟨b,o,none⟩∧I b∧w.cell? ⟨b,o+i*6,none⟩=some (.int .i64 (nth xs i).task)∧w.cell? ⟨b,o+i*6+1,none⟩=some (.int .i64 (nth xs i).number)∧w.cell? ⟨b,o+i*6+2,none⟩=some (.int .i64 (nth xs i).released)∧w.cell? ⟨b,o+i*6+3,none⟩=some (.int .i64 (nth xs i).used)∧w.cell? ⟨b,o+i*6+4,none⟩=some (.bool (nth xs i).ran)∧w.cell? ⟨b,o+i*6+5,none⟩=some (.bool (nth xs i).missed):=by
 obtain ⟨b,o,hA,hI,hc⟩:=Sl.at_flat h hi
 exact ⟨b,o,hA,hI,hc 0 _ rfl,hc 1 _ rfl,hc 2 _ rfl,hc 3 _ rfl,hc 4 _ rfl,hc 5 _ rfl⟩
theorem one_job:∀(xs:List TJob),∀u∈xs.flatMap TJob.cells,u.oneCell'=true:=by
 intro xs u hu
 simp only [List.mem_flatMap,TJob.cells,List.mem_cons,List.mem_nil_iff,or_false] at hu
 obtain ⟨n,_,h⟩:=hu
 rcases h with rfl|rfl|rfl|rfl|rfl|rfl<;>rfl
structure TEv where
 t:Int
 kind:Int
 a:Int
 b:Int
 deriving Inhabited,DecidableEq
def TEv.cells (x:TEv):List Value:=[.int .i64 x.t,.int .i64 x.kind,.int .i64 x.a,.int .i64 x.b]
def cEv:Cod TEv:= .flat 4 TEv.cells (fun _=>rfl)
theorem Sl.at_ev {I:Nat→Prop}{w:World}{A:Option Addr}{c:Nat}{xs:List TEv}(h:Sl cEv I w A c xs){i:Nat}(hi:i < xs.length):
  ∃b o,A=some ⟨b,o,none⟩∧I b∧w.cell? ⟨b,o+i*4,none⟩=some (.int .i64 (nth xs i).t)∧w.cell? ⟨b,o+i*4+1,none⟩=some (.int .i64 (nth xs i).kind)∧w.cell? ⟨b,o+i*4+2,none⟩=some (.int .i64 (nth xs i).a)∧w.cell? ⟨b,o+i*4+3,none⟩=some (.int .i64 (nth xs i).b):=by
 obtain ⟨b,o,hA,hI,hc⟩:=Sl.at_flat h hi
 exact ⟨b,o,hA,hI,hc 0 _ rfl,hc 1 _ rfl,hc 2 _ rfl,hc 3 _ rfl⟩
theorem one_ev:∀(xs:List TEv),∀u∈xs.flatMap TEv.cells,u.oneCell'=true:=by
 intro xs u hu
 simp only [List.mem_flatMap,TEv.cells,List.mem_cons,List.mem_nil_iff,or_false] at hu
 obtain ⟨n,_,h⟩:=hu
 rcases h with rfl|rfl|rfl|rfl<;>rfl
structure TRing where
 vals:List Int
 lost:Int
 deriving Inhabited,DecidableEq
def cRing:Cod TRing where
 size:=2
 rel:=fun I w cs x=>∃A c,cs=[.slice A x.vals.length c,.int .i64 x.lost]∧Sl cInt I w A c x.vals
 len:=fun {_ _ _ _} ⟨_,_,h,_⟩=>by rw [h];rfl
 keep:=fun ⟨A,c,h,hs⟩ hk=>⟨A,c,h,hs.keep hk⟩
 mono:=fun ⟨A,c,h,hs⟩ hk=>⟨A,c,h,hs.mono hk⟩
theorem Sl.at_ring {I:Nat→Prop}{w:World}{A:Option Addr}{c:Nat}{xs:List TRing}(h:Sl cRing I w A c xs){i:Nat}(hi:i < xs.length):
  ∃b o A' c',A=some ⟨b,o,none⟩∧I b∧w.cell? ⟨b,o+i*2,none⟩=some (.slice A' (nth xs i).vals.length c')∧w.cell? ⟨b,o+i*2+1,none⟩=some (.int .i64 (nth xs i).lost)∧Sl cInt I w A' c' (nth xs i).vals:=by
 obtain ⟨b,o,es,hA,hI,⟨A',c',rfl,hs⟩,hc⟩:=h.cells hi
 exact ⟨b,o,A',c',hA,hI,hc 0 _ rfl,hc 1 _ rfl,hs⟩
structure TCfg where
 sets:Int
 ways:Int
 doms:Int
 pad:Int
 quantum:Int
 slots:List TSlot
 owners:List Int
 chans:List TChan
 tasks:List TTask
 deriving Inhabited,DecidableEq
structure TCfgS where
 a0:Option Addr
 n0:Nat
 a1:Option Addr
 n1:Nat
 a2:Option Addr
 n2:Nat
 a3:Option Addr
 n3:Nat
structure TCfg.At (I:Nat→Prop) (w:World) (x:TCfg) (S:TCfgS):Prop where
 s0:Sl cSlot I w S.a0 S.n0 x.slots
 s1:Sl cInt I w S.a1 S.n1 x.owners
 s2:Sl cChan I w S.a2 S.n2 x.chans
 s3:Sl cTask I w S.a3 S.n3 x.tasks
def TCfg.cells (x:TCfg) (S:TCfgS):List Value:=[.int .i64 x.sets,.int .i64 x.ways,.int .i64 x.doms,.int .i64 x.pad,.int .i64 x.quantum,.slice S.a0 x.slots.length S.n0,.slice S.a1 x.owners.length S.n1,.slice S.a2 x.chans.length S.n2,.slice S.a3 x.tasks.length S.n3]
theorem TCfg.At.keep {I:Nat→Prop}{w w':World}{x:TCfg}{S:TCfgS}(h:TCfg.At I w x S)(hk:∀b,I b→w'.heap[b]?=w.heap[b]?):TCfg.At I w' x S:=⟨h.s0.keep hk,h.s1.keep hk,h.s2.keep hk,h.s3.keep hk⟩
theorem TCfg.At.mono {I J:Nat→Prop}{w:World}{x:TCfg}{S:TCfgS}(h:TCfg.At I w x S)(hk:∀b,I b→J b):TCfg.At J w x S:=⟨h.s0.mono hk,h.s1.mono hk,h.s2.mono hk,h.s3.mono hk⟩
theorem TCfg.At.next {B:Nat}{w w':World}{x:TCfg}{S:TCfgS}(h:TCfg.At (Low B) w x S)(hB:B≤w.heap.size)(hb:Below w.heap.size w w'):TCfg.At (Low B) w' x S:=h.keep fun b hI=>hb.block b (Nat.lt_of_lt_of_le hI hB)
theorem TCfg.At.keepI {I:Nat→Prop}{w w':World}{x:TCfg}{S:TCfgS}(h:TCfg.At I w x S)(hk:KeepI I w w'):TCfg.At I w' x S:=h.keep hk
theorem TCfg.At.rng {a b B:Nat}{w:World}{x:TCfg}{S:TCfgS}(h:TCfg.At (Rng a b) w x S)(hB:b≤B):TCfg.At (Low B) w x S:=h.mono fun _ hk=>Nat.lt_of_lt_of_le hk.2 hB
theorem TCfg.At.up {B B':Nat}{w:World}{x:TCfg}{S:TCfgS}(h:TCfg.At (Low B) w x S)(hB:B≤B'):TCfg.At (Low B') w x S:=h.mono fun _ hk=>Nat.lt_of_lt_of_le hk hB
def cCfg:Cod TCfg where
 size:=9
 rel:=fun I w cs x=>∃S,cs=x.cells S∧TCfg.At I w x S
 len:=fun {_ _ _ _} ⟨_,h,_⟩=>by rw [h];rfl
 keep:=fun ⟨S,h,hs⟩ hk=>⟨S,h,hs.keep hk⟩
 mono:=fun ⟨S,h,hs⟩ hk=>⟨S,h,hs.mono hk⟩
structure TDom where
 jobs:List TJob
 released:List Int
 next:Int
 ins:List TRing
 taken:List Int
 outs:List (List Int)
 events:List TEv
 deriving Inhabited,DecidableEq
structure TDomS where
 a0:Option Addr
 n0:Nat
 a1:Option Addr
 n1:Nat
 a2:Option Addr
 n2:Nat
 a3:Option Addr
 n3:Nat
 a4:Option Addr
 n4:Nat
 a5:Option Addr
 n5:Nat
structure TDom.At (I:Nat→Prop) (w:World) (x:TDom) (S:TDomS):Prop where
 s0:Sl cJob I w S.a0 S.n0 x.jobs
 s1:Sl cInt I w S.a1 S.n1 x.released
 s2:Sl cRing I w S.a2 S.n2 x.ins
 s3:Sl cInt I w S.a3 S.n3 x.taken
 s4:Sl cInt.slice I w S.a4 S.n4 x.outs
 s5:Sl cEv I w S.a5 S.n5 x.events
def TDom.cells (x:TDom) (S:TDomS):List Value:=[.slice S.a0 x.jobs.length S.n0,.slice S.a1 x.released.length S.n1,.int .i64 x.next,.slice S.a2 x.ins.length S.n2,.slice S.a3 x.taken.length S.n3,.slice S.a4 x.outs.length S.n4,.slice S.a5 x.events.length S.n5]
theorem TDom.At.keep {I:Nat→Prop}{w w':World}{x:TDom}{S:TDomS}(h:TDom.At I w x S)(hk:∀b,I b→w'.heap[b]?=w.heap[b]?):TDom.At I w' x S:=⟨h.s0.keep hk,h.s1.keep hk,h.s2.keep hk,h.s3.keep hk,h.s4.keep hk,h.s5.keep hk⟩
theorem TDom.At.mono {I J:Nat→Prop}{w:World}{x:TDom}{S:TDomS}(h:TDom.At I w x S)(hk:∀b,I b→J b):TDom.At J w x S:=⟨h.s0.mono hk,h.s1.mono hk,h.s2.mono hk,h.s3.mono hk,h.s4.mono hk,h.s5.mono hk⟩
theorem TDom.At.next {B:Nat}{w w':World}{x:TDom}{S:TDomS}(h:TDom.At (Low B) w x S)(hB:B≤w.heap.size)(hb:Below w.heap.size w w'):TDom.At (Low B) w' x S:=h.keep fun b hI=>hb.block b (Nat.lt_of_lt_of_le hI hB)
theorem TDom.At.keepI {I:Nat→Prop}{w w':World}{x:TDom}{S:TDomS}(h:TDom.At I w x S)(hk:KeepI I w w'):TDom.At I w' x S:=h.keep hk
theorem TDom.At.rng {a b B:Nat}{w:World}{x:TDom}{S:TDomS}(h:TDom.At (Rng a b) w x S)(hB:b≤B):TDom.At (Low B) w x S:=h.mono fun _ hk=>Nat.lt_of_lt_of_le hk.2 hB
theorem TDom.At.up {B B':Nat}{w:World}{x:TDom}{S:TDomS}(h:TDom.At (Low B) w x S)(hB:B≤B'):TDom.At (Low B') w x S:=h.mono fun _ hk=>Nat.lt_of_lt_of_le hk hB
def cDom:Cod TDom where
 size:=7
 rel:=fun I w cs x=>∃S,cs=x.cells S∧TDom.At I w x S
 len:=fun {_ _ _ _} ⟨_,h,_⟩=>by rw [h];rfl
 keep:=fun ⟨S,h,hs⟩ hk=>⟨S,h,hs.keep hk⟩
 mono:=fun ⟨S,h,hs⟩ hk=>⟨S,h,hs.mono hk⟩
structure TScr where
 actions:List (List TAct)
 arrivals:List TArr
 rounds:Int
 deriving Inhabited,DecidableEq
structure TScrS where
 a0:Option Addr
 n0:Nat
 a1:Option Addr
 n1:Nat
structure TScr.At (I:Nat→Prop) (w:World) (x:TScr) (S:TScrS):Prop where
 s0:Sl cAct.slice I w S.a0 S.n0 x.actions
 s1:Sl cArr I w S.a1 S.n1 x.arrivals
def TScr.cells (x:TScr) (S:TScrS):List Value:=[.slice S.a0 x.actions.length S.n0,.slice S.a1 x.arrivals.length S.n1,.int .i64 x.rounds]
theorem TScr.At.keep {I:Nat→Prop}{w w':World}{x:TScr}{S:TScrS}(h:TScr.At I w x S)(hk:∀b,I b→w'.heap[b]?=w.heap[b]?):TScr.At I w' x S:=⟨h.s0.keep hk,h.s1.keep hk⟩
theorem TScr.At.mono {I J:Nat→Prop}{w:World}{x:TScr}{S:TScrS}(h:TScr.At I w x S)(hk:∀b,I b→J b):TScr.At J w x S:=⟨h.s0.mono hk,h.s1.mono hk⟩
theorem TScr.At.next {B:Nat}{w w':World}{x:TScr}{S:TScrS}(h:TScr.At (Low B) w x S)(hB:B≤w.heap.size)(hb:Below w.heap.size w w'):TScr.At (Low B) w' x S:=h.keep fun b hI=>hb.block b (Nat.lt_of_lt_of_le hI hB)
theorem TScr.At.keepI {I:Nat→Prop}{w w':World}{x:TScr}{S:TScrS}(h:TScr.At I w x S)(hk:KeepI I w w'):TScr.At I w' x S:=h.keep hk
theorem TScr.At.rng {a b B:Nat}{w:World}{x:TScr}{S:TScrS}(h:TScr.At (Rng a b) w x S)(hB:b≤B):TScr.At (Low B) w x S:=h.mono fun _ hk=>Nat.lt_of_lt_of_le hk.2 hB
theorem TScr.At.up {B B':Nat}{w:World}{x:TScr}{S:TScrS}(h:TScr.At (Low B) w x S)(hB:B≤B'):TScr.At (Low B') w x S:=h.mono fun _ hk=>Nat.lt_of_lt_of_le hk hB
def isDom (doms d:Int):Bool:=inB 0 d (doms - 1)
def headErr (c:TCfg):Int:=
 if !inB 1 c.sets 4|| !inB 1 c.ways 3|| !inB 1 c.doms 4|| !inB 1 c.quantum 100 then 3
 else if !inB (2+5*c.sets*c.ways) c.pad 99 then 4
 else if !inB 1 c.slots.length 6||decide (4 < c.owners.length)||decide (4 < c.chans.length)||decide (6 < c.tasks.length) then 2 else 0
def slotErr (doms:Int) (x:TSlot):Int:=if !isDom doms x.dom then 5 else if !inB 100 x.len 1000 then 3 else 0
def slotsErr (c:TCfg):Int:=firstE c.slots.length fun i=>slotErr c.doms (nth c.slots i)
def ownersErr (c:TCfg):Int:=if anyI c.owners.length (fun i=>!isDom c.doms (nth c.owners i)) then 5 else 0
def sameChan (xs:List TChan) (i j:Nat):Bool:=(nth xs j).src==(nth xs i).src&&(nth xs j).dst==(nth xs i).dst
def chanErr (doms:Int) (xs:List TChan) (i:Nat):Int:=
 if !isDom doms (nth xs i).src|| !isDom doms (nth xs i).dst then 5
 else if (nth xs i).src=(nth xs i).dst then 1
 else if !inB 1 (nth xs i).size 4 then 3
 else if anyI i (sameChan xs i) then 6 else 0
def chansErr (c:TCfg):Int:=firstE c.chans.length (chanErr c.doms c.chans)
def taskErr (doms:Int) (x:TTask):Int:=
 if !isDom doms x.dom then 5
 else if !inB 1 x.period 5000|| !inB 1 x.budget x.period|| !inB 1 x.dead x.period then 3 else 0
def tasksErr (c:TCfg):Int:=firstE c.tasks.length fun i=>taskErr c.doms (nth c.tasks i)
def thenE (a b:Int):Int:=if a=0 then b else a
def checkConfig (c:TCfg):Int:=thenE (headErr c) (thenE (slotsErr c) (thenE (ownersErr c) (thenE (chansErr c) (tasksErr c))))
theorem thenE_zero {a b:Int} :thenE a b=0↔a=0∧b=0:=by
 unfold thenE;split
 ·rename_i h;simp [h]
 ·rename_i h;simp [h]
structure CfgOk (c:TCfg):Prop where
 sets:1≤c.sets∧c.sets≤4
 ways:1≤c.ways∧c.ways≤3
 doms:1≤c.doms∧c.doms≤4
 quantum:1≤c.quantum∧c.quantum≤100
 pad:2+5*c.sets*c.ways≤c.pad∧c.pad≤99
 nslots:1≤c.slots.length∧c.slots.length≤6
 nowners:c.owners.length≤4
 nchans:c.chans.length≤4
 ntasks:c.tasks.length≤6
 slot:∀i,i < c.slots.length→0≤(nth c.slots i).dom∧(nth c.slots i).dom < c.doms∧100≤(nth c.slots i).len∧(nth c.slots i).len≤1000
 owner:∀i,i < c.owners.length→0≤nth c.owners i∧nth c.owners i < c.doms
 chan:∀i,i < c.chans.length→(0≤(nth c.chans i).src∧(nth c.chans i).src < c.doms)∧(0≤(nth c.chans i).dst∧(nth c.chans i).dst < c.doms)∧(nth c.chans i).src≠(nth c.chans i).dst∧1≤(nth c.chans i).size∧(nth c.chans i).size≤4
 task:∀i,i < c.tasks.length→(0≤(nth c.tasks i).dom∧(nth c.tasks i).dom < c.doms)∧(1≤(nth c.tasks i).period∧(nth c.tasks i).period≤5000)∧(1≤(nth c.tasks i).budget∧(nth c.tasks i).budget≤(nth c.tasks i).period)∧(1≤(nth c.tasks i).dead∧(nth c.tasks i).dead≤(nth c.tasks i).period)
theorem isDom_true {doms d:Int} :isDom doms d=true↔0≤d∧d < doms:=by unfold isDom;rw [inB_true];omega
theorem ite_zero {p:Prop}[Decidable p]{a b:Int}(ha:a≠0):(if p then a else b)=0↔¬ p∧b=0:=by
 split
 ·rename_i h;simp [h,ha]
 ·rename_i h;simp [h]
theorem head_ok {c:TCfg}(h:headErr c=0):(1≤c.sets∧c.sets≤4)∧(1≤c.ways∧c.ways≤3)∧(1≤c.doms∧c.doms≤4)∧(1≤c.quantum∧c.quantum≤100)∧(2+5*c.sets*c.ways≤c.pad∧c.pad≤99)∧(1≤c.slots.length∧c.slots.length≤6)∧c.owners.length≤4∧c.chans.length≤4∧c.tasks.length≤6:=by
 unfold headErr at h
 rw [ite_zero (by omega),ite_zero (by omega),ite_zero (by omega)] at h
 simp only [Bool.or_eq_true,Bool.not_eq_true',not_or,Bool.not_eq_false,decide_eq_true_eq,inB_true] at h
 omega
theorem checkConfig_ok {c:TCfg}(h:checkConfig c=0):CfgOk c:=by
 unfold checkConfig at h
 rw [thenE_zero,thenE_zero,thenE_zero,thenE_zero] at h
 obtain ⟨h1,h2,h3,h4,h5⟩:=h
 obtain ⟨a1,a2,a3,a4,a5,a6,a7,a8,a9⟩:=head_ok h1
 refine ⟨a1,a2,a3,a4,a5,a6,a7,a8,a9,fun i hi=>?_,fun i hi=>?_,fun i hi=>?_,fun i hi=>?_⟩
 ·have:=firstE_zero h2 i hi
  unfold slotErr at this
  rw [ite_zero (by omega),ite_zero (by omega)] at this
  simp only [Bool.not_eq_true',Bool.not_eq_false,isDom_true,inB_true] at this
  omega
 ·unfold ownersErr at h3
  rw [ite_zero (by omega)] at h3
  have:=anyI_false.1 (by simpa using h3.1) i hi
  have:=isDom_true.1 (by simpa using this)
  exact this
 ·have:=firstE_zero h4 i hi
  unfold chanErr at this
  rw [ite_zero (by omega),ite_zero (by omega),ite_zero (by omega),ite_zero (by omega)] at this
  simp only [Bool.or_eq_true,Bool.not_eq_true',not_or,Bool.not_eq_false,isDom_true,inB_true] at this
  obtain ⟨b1,b2,b3,b4,_⟩:=this
  exact ⟨b1.1,b1.2,b2,b3⟩
 ·have:=firstE_zero h5 i hi
  unfold taskErr at this
  rw [ite_zero (by omega),ite_zero (by omega)] at this
  simp only [Bool.or_eq_true,Bool.not_eq_true',not_or,Bool.not_eq_false,isDom_true,inB_true] at this
  obtain ⟨b1,⟨⟨b2,b3⟩,b4⟩,_⟩:=this
  exact ⟨b1,b2,b3,b4⟩
def badValue (n:Int):Bool:= !inB 0 n 255
def areValues (vs:List Int):Bool:= !anyI vs.length fun j=>badValue (nth vs j)
def checkRing (vs:List Int) (lost size:Int):Int:=
 if !inB 1 size 4 then 3 else if size < vs.length then 2 else if !areValues vs|| !inB 0 lost 100000 then 3 else 0
def restOf (vs:List Int):List Int:=vs.tail
def takeV (vs:List Int):Int:=match vs with|[]=> -1|v::_=>v
def taskOf (c:TCfg) (t:Int):TTask:=nth c.tasks t.toNat
def jobErr (c:TCfg) (dom:Int) (j:TJob):Int:=
 if !inB 0 j.task ((c.tasks.length:Int) - 1) then 5
 else if (taskOf c j.task).dom≠dom then 5
 else if !inB 0 j.number 100000|| !inB 0 j.released 100000|| !inB 0 j.used ((taskOf c j.task).budget - 1) then 3 else 0
def outErr (l:List Int):Int:=if 60 < l.length then 2 else if !areValues l then 3 else 0
def formErr (c:TCfg) (d:TDom):Int:=
 if d.released.length≠c.tasks.length∨d.ins.length≠c.chans.length∨d.outs.length≠c.chans.length∨d.taken.length≠c.owners.length then 1
 else if anyI d.released.length (fun i=>!inB 0 (nth d.released i) 100000)|| !inB 0 d.next 100000||anyI d.taken.length (fun i=>!inB 0 (nth d.taken i) 15) then 3
 else if 20 < d.jobs.length then 2 else 0
def insErr (c:TCfg) (d:TDom):Int:=firstE d.ins.length fun i=>checkRing (nth d.ins i).vals (nth d.ins i).lost (nth c.chans i).size
def domErr (c:TCfg) (dom:Int) (d:TDom):Int:=
 if !isDom c.doms dom then 5
 else thenE (formErr c d) (thenE (firstE d.jobs.length fun i=>jobErr c dom (nth d.jobs i)) (thenE (insErr c d) (firstE d.outs.length fun i=>outErr (nth d.outs i))))
def checkBoth (c:TCfg) (dom:Int) (d:TDom):Int:=thenE (checkConfig c) (domErr c dom d)
structure JobOk (c:TCfg) (dom:Int) (j:TJob):Prop where
 task:0≤j.task∧j.task < c.tasks.length
 dom:(taskOf c j.task).dom=dom
 number:0≤j.number∧j.number≤100000
 released:0≤j.released∧j.released≤100000
 used:0≤j.used∧j.used < (taskOf c j.task).budget
theorem jobErr_zero {c:TCfg}{dom:Int}{j:TJob} :jobErr c dom j=0↔JobOk c dom j:=by
 unfold jobErr
 rw [ite_zero (by omega),ite_zero (by omega),ite_zero (by omega)]
 simp only [Bool.or_eq_true,Bool.not_eq_true',not_or,Bool.not_eq_false,inB_true,Decidable.not_not,and_true]
 constructor
 ·rintro ⟨h1,h2,⟨h3,h4⟩,h5⟩
  exact ⟨by omega,h2,h3,h4,by omega⟩
 ·rintro ⟨h1,h2,h3,h4,h5⟩
  exact ⟨by omega,h2,⟨h3,h4⟩,by omega⟩
structure DomOkW (c:TCfg) (dom:Int) (d:TDom):Prop where
 isD:0≤dom∧dom < c.doms
 lrel:d.released.length=c.tasks.length
 lin:d.ins.length=c.chans.length
 lout:d.outs.length=c.chans.length
 ltak:d.taken.length=c.owners.length
 rel:∀i,i < d.released.length→0≤nth d.released i∧nth d.released i≤100000
 next:0≤d.next∧d.next≤100000
 tak:∀i,i < d.taken.length→0≤nth d.taken i∧nth d.taken i≤15
 njobs:d.jobs.length≤20
 job:∀i,i < d.jobs.length→JobOk c dom (nth d.jobs i)
 ring:∀i,i < d.ins.length→checkRing (nth d.ins i).vals (nth d.ins i).lost (nth c.chans i).size=0
structure DomOk (c:TCfg) (dom:Int) (d:TDom):Prop extends DomOkW c dom d where
 out:∀i,i < d.outs.length→(nth d.outs i).length≤60∧areValues (nth d.outs i)=true
theorem domErr_zero {c:TCfg}{dom:Int}{d:TDom} :domErr c dom d=0↔DomOk c dom d:=by
 unfold domErr formErr insErr
 rw [ite_zero (by omega),thenE_zero,thenE_zero,thenE_zero,ite_zero (by omega),ite_zero (by omega),ite_zero (by omega),firstE_zero_iff,firstE_zero_iff,firstE_zero_iff]
 simp only [Bool.or_eq_true,Bool.not_eq_true',not_or,Bool.not_eq_false,isDom_true,inB_true,Decidable.not_not,ne_eq,Bool.not_eq_true,anyI_false,and_true,jobErr_zero]
 constructor
 ·rintro ⟨h1,⟨⟨a1,a2,a3,a4⟩,⟨⟨b1,b2⟩,b3⟩,b4⟩,h3,h4,h5⟩
  refine ⟨⟨h1,a1,a2,a3,a4,fun i hi=>inB_true.1 (by simpa using b1 i hi),b2,fun i hi=>inB_true.1 (by simpa using b3 i hi),by omega,h3,h4⟩,fun i hi=>?_⟩
  have:=h5 i hi
  unfold outErr at this
  rw [ite_zero (by omega),ite_zero (by omega)] at this
  simp only [Bool.not_eq_true',Bool.not_eq_false,and_true] at this
  exact ⟨by omega,this.2⟩
 ·intro h
  refine ⟨h.isD,⟨⟨h.lrel,h.lin,h.lout,h.ltak⟩,⟨⟨fun i hi=>?_,h.next⟩,fun i hi=>?_⟩,by have:=h.njobs;omega⟩,h.job,h.ring,fun i hi=>?_⟩
  ·have:=inB_true.2 (h.rel i hi);simpa using this
  ·have:=inB_true.2 (h.tak i hi);simpa using this
  ·have:=h.out i hi
   unfold outErr
   rw [if_neg (by omega),if_neg (by simp [this.2])]
def upTo {S:Type} (f:Nat→S→S):Nat→Nat→S→S
 |0,_,s=>s
 |n+1,i,s=>upTo f n (i+1) (f i s)
theorem upTo_step {S:Type}(f:Nat→S→S){n i:Nat}(h:i < n)(s:S):upTo f (n - i) i s=upTo f (n - (i+1)) (i+1) (f i s):=by
 obtain ⟨m,hm⟩:∃m,n - i=m+1:=⟨n - i - 1,by omega⟩
 rw [hm,show n - (i+1)=m by omega];rfl
theorem upTo_end {S:Type}(f:Nat→S→S){n i:Nat}(h:n≤i)(s:S):upTo f (n - i) i s=s:=by rw [show n - i=0 by omega];rfl
theorem upTo_keeps {S:Type}{f:Nat→S→S}{P:S→Prop}{N:Nat}(h:∀i s,i < N→P s→P (f i s)):∀n i s,i+n≤N→P s→P (upTo f n i s):=by
 intro n
 induction n with
 |zero=>intro i s _ hp;exact hp
 |succ n ih=>intro i s hi hp;exact ih (i+1) (f i s) (by omega) (h i s (by omega) hp)
def relAt (c:TCfg) (t:Nat) (d:TDom):Int:=(nth c.tasks t).period*nth d.released t
def relCan (c:TCfg) (t:Nat) (now:Int) (d:TDom):Bool:=decide (relAt c t d≤now)&&decide (nth d.released t < 100000)
def relStep (c:TCfg) (t:Nat) (d:TDom):TDom:=
 if d.jobs.length < 20 then
  {d with jobs:=d.jobs++[⟨t,nth d.released t,relAt c t d,0,false,false⟩],events:=d.events++[⟨relAt c t d,2,t,nth d.released t⟩],released:=d.released.set t (nth d.released t+1)}
 else {d with released:=d.released.set t (nth d.released t+1)}
def relLoop (c:TCfg) (t:Nat) (now:Int):Nat→TDom→TDom
 |0,d=>d
 |n+1,d=>if relCan c t now d then relLoop c t now n (relStep c t d) else d
def relFuel (t:Nat) (d:TDom):Nat:=(100000 - nth d.released t).toNat
def relTask (c:TCfg) (dom now:Int) (t:Nat) (d:TDom):TDom:=if (nth c.tasks t).dom=dom then relLoop c t now (relFuel t d) d else d
def lateOf (c:TCfg) (j:TJob):Int:=j.released+(taskOf c j.task).dead
def missStep (c:TCfg) (now:Int) (i:Nat) (d:TDom):TDom:=
 if !(nth d.jobs i).missed&&decide (lateOf c (nth d.jobs i)≤now) then
  {d with jobs:=d.jobs.set i {nth d.jobs i with missed:=true},events:=d.events++[⟨lateOf c (nth d.jobs i),6,(nth d.jobs i).task,(nth d.jobs i).number⟩]}
 else d
def relAll (c:TCfg) (dom now:Int) (d:TDom):TDom:=upTo (relTask c dom now) c.tasks.length 0 d
def missAll (c:TCfg) (now:Int) (d:TDom):TDom:=upTo (missStep c now) d.jobs.length 0 d
def releaseOf (c:TCfg) (dom now:Int) (d:TDom):TDom:=missAll c now (relAll c dom now d)
theorem relLoop_go {c:TCfg}{t:Nat}{now:Int}{n:Nat}{d:TDom}(hn:relFuel t d≤n)(h:relCan c t now d=true):∃m,n=m+1∧relLoop c t now n d=relLoop c t now m (relStep c t d):=by
 unfold relCan at h
 simp only [Bool.and_eq_true,decide_eq_true_eq] at h
 unfold relFuel at hn
 obtain ⟨m,rfl⟩:∃m,n=m+1:=⟨n - 1,by omega⟩
 refine ⟨m,rfl,?_⟩
 conv=>lhs;unfold relLoop
 rw [if_pos (by simp [relCan,h])]
theorem relLoop_stop {c:TCfg}{t:Nat}{now:Int}{n:Nat}{d:TDom}(h:relCan c t now d=false):relLoop c t now n d=d:=by
 cases n with
 |zero=>rfl
 |succ n=>unfold relLoop;rw [if_neg (by simp [h])]
def aheadJ (c:TCfg) (a b:TJob):Bool:=
 if lateOf c a≠lateOf c b then decide (lateOf c a < lateOf c b) else if a.task≠b.task then decide (a.task < b.task) else decide (a.number < b.number)
def aheadI (c:TCfg) (js:List TJob) (i k:Nat):Bool:=aheadJ c (nth js i) (nth js k)||(!aheadJ c (nth js k) (nth js i)&&decide (i < k))
def isFirst (c:TCfg) (js:List TJob) (i:Nat):Bool:= !anyI js.length fun k=>decide (k≠i)&&aheadI c js k i
def bestOf (c:TCfg) (js:List TJob):Int:=findI js.length (isFirst c js)
theorem aheadJ_iff {c:TCfg}{a b:TJob} :aheadJ c a b=true↔lateOf c a < lateOf c b∨(lateOf c a=lateOf c b∧(a.task < b.task∨(a.task=b.task∧a.number < b.number))):=by
 unfold aheadJ
 split
 ·simp;omega
 ·split
  ·simp;omega
  ·simp;omega
theorem aheadJ_false {c:TCfg}{a b:TJob} :aheadJ c a b=false↔¬ (lateOf c a < lateOf c b∨(lateOf c a=lateOf c b∧(a.task < b.task∨(a.task=b.task∧a.number < b.number)))):=by
 rw [← aheadJ_iff];simp
theorem aheadI_iff {c:TCfg}{js:List TJob}{i k:Nat} :aheadI c js i k=true↔aheadJ c (nth js i) (nth js k)=true∨(aheadJ c (nth js k) (nth js i)=false∧i < k):=by
 unfold aheadI;simp
theorem aheadI_asymm {c:TCfg}{js:List TJob}{i k:Nat}(h:aheadI c js i k=true):aheadI c js k i=false:=by
 rw [← Bool.not_eq_true,aheadI_iff,aheadJ_iff,aheadJ_false]
 rw [aheadI_iff,aheadJ_iff,aheadJ_false] at h
 omega
theorem aheadI_trans {c:TCfg}{js:List TJob}{i j k:Nat}(h:aheadI c js i j=true)(h':aheadI c js j k=true):aheadI c js i k=true:=by
 rw [aheadI_iff,aheadJ_iff,aheadJ_false] at h h'⊢
 omega
def BestTo (c:TCfg) (js:List TJob) (k:Nat) (b:Int):Prop:=(k=0∧b= -1)∨(∃i:Nat,i < k∧b=i∧∀j,j < k→j≠i→aheadI c js i j=true)
theorem BestTo.zero (c:TCfg)(js:List TJob):BestTo c js 0 (-1):= .inl ⟨rfl,rfl⟩
theorem BestTo.take {c:TCfg}{js:List TJob}{k:Nat}{b:Int}(h:BestTo c js k b)(ht:b < 0∨aheadJ c (nth js k) (nth js b.toNat)=true):BestTo c js (k+1) k:=by
 refine .inr ⟨k,by omega,rfl,fun j hj hne=>?_⟩
 rcases h with ⟨rfl,rfl⟩|⟨i,hi,rfl,h⟩
 ·omega
 ·rcases ht with ht|ht
  ·omega
  ·have hk:aheadI c js k i=true:=aheadI_iff.2 (.inl (by simpa using ht))
   by_cases e:j=i
   ·subst e;exact hk
   ·exact aheadI_trans hk (h j (by omega) e)
theorem BestTo.stay {c:TCfg}{js:List TJob}{k:Nat}{b:Int}(h:BestTo c js k b)(h0:0≤b)(ht:aheadJ c (nth js k) (nth js b.toNat)=false):BestTo c js (k+1) b:=by
 rcases h with ⟨rfl,rfl⟩|⟨i,hi,rfl,h⟩
 ·omega
 ·refine .inr ⟨i,by omega,rfl,fun j hj hne=>?_⟩
  by_cases e:j=k
  ·subst e;exact aheadI_iff.2 (.inr ⟨by simpa using ht,hi⟩)
  ·exact h j (by omega) hne
theorem BestTo.best {c:TCfg}{js:List TJob}{b:Int}(h:BestTo c js js.length b):bestOf c js=b:=by
 rcases h with ⟨h0,rfl⟩|⟨i,hi,rfl,h⟩
 ·unfold bestOf;rw [h0];rfl
 ·refine findI_hit hi (fun j hj=>?_) ?_
  ·unfold isFirst
   rw [Bool.not_eq_false',anyI_true]
   exact ⟨i,hi,by simp [h j (by omega) (by omega)];omega⟩
  ·unfold isFirst
   rw [Bool.not_eq_true',anyI_false]
   intro j hj
   by_cases e:j=i
   ·simp [e]
   ·rw [aheadI_asymm (h j hj e)];simp
theorem bestOf_cases (c:TCfg)(js:List TJob):(js=[]∧bestOf c js= -1)∨(∃i:Nat,i < js.length∧bestOf c js=i∧∀j,j < js.length→j≠i→aheadI c js i j=true):=by
 have key:∀k,∃b,BestTo c js k b:=by
  intro k
  induction k with
  |zero=>exact ⟨-1,BestTo.zero c js⟩
  |succ k ih=>
   obtain ⟨b,hb⟩:=ih
   by_cases h0:b < 0
   ·exact ⟨k,hb.take (.inl h0)⟩
   ·cases ha:aheadJ c (nth js k) (nth js b.toNat) with
    |true=>exact ⟨k,hb.take (.inr ha)⟩
    |false=>exact ⟨b,hb.stay (by omega) ha⟩
 obtain ⟨b,hb⟩:=key js.length
 have hbest:=hb.best
 rcases hb with ⟨h0,rfl⟩|⟨i,hi,rfl,h⟩
 ·exact .inl ⟨List.eq_nil_of_length_eq_zero h0,hbest⟩
 ·exact .inr ⟨i,hi,hbest,h⟩
def IsDue (c:TCfg) (dom:Int) (d:TDom) (p:Nat→Prop) (v:Int):Prop:=
 (v= -1∧∀t,p t→(nth c.tasks t).dom≠dom)∨(∃t,p t∧(nth c.tasks t).dom=dom∧v=relAt c t d∧0≤v∧∀u,p u→(nth c.tasks u).dom=dom→v≤relAt c u d)
theorem IsDue.unique {c:TCfg}{dom:Int}{d:TDom}{p:Nat→Prop}{v v':Int}(h:IsDue c dom d p v)(h':IsDue c dom d p v'):v=v':=by
 rcases h with ⟨rfl,h⟩|⟨t,h1,h2,h3,h4,h5⟩
 ·rcases h' with ⟨rfl,h'⟩|⟨t',h1',h2',_⟩
  ·rfl
  ·exact absurd h2' (h t' h1')
 ·rcases h' with ⟨rfl,h'⟩|⟨t',h1',h2',h3',h4',h5'⟩
  ·exact absurd h2 (h' t h1)
  ·have:=h5 t' h1' h2'
   have:=h5' t h1 h2
   omega
theorem IsDue.skip {c:TCfg}{dom:Int}{d:TDom}{p q:Nat→Prop}{v:Int}{k:Nat}(h:IsDue c dom d p v)(hq:∀t,q t↔p t∨t=k)(hd:(nth c.tasks k).dom≠dom):IsDue c dom d q v:=by
 rcases h with ⟨rfl,h⟩|⟨t,h1,h2,h3,h4,h5⟩
 ·refine .inl ⟨rfl,fun t ht=>?_⟩
  rcases (hq t).1 ht with ht|rfl
  ·exact h t ht
  ·exact hd
 ·refine .inr ⟨t,(hq t).2 (.inl h1),h2,h3,h4,fun u hu hdu=>?_⟩
  rcases (hq u).1 hu with hu|rfl
  ·exact h5 u hu hdu
  ·exact absurd hdu hd
theorem IsDue.take {c:TCfg}{dom:Int}{d:TDom}{p q:Nat→Prop}{v:Int}{k:Nat}(h:IsDue c dom d p v)(hq:∀t,q t↔p t∨t=k)(hd:(nth c.tasks k).dom=dom)(h0:0≤relAt c k d)(hv:v < 0∨relAt c k d≤v):IsDue c dom d q (relAt c k d):=by
 refine .inr ⟨k,(hq k).2 (.inr rfl),hd,rfl,h0,fun u hu hdu=>?_⟩
 rcases (hq u).1 hu with hu|rfl
 ·rcases h with ⟨rfl,h⟩|⟨t,h1,h2,h3,h4,h5⟩
  ·exact absurd hdu (h u hu)
  ·have:=h5 u hu hdu
   omega
 ·exact Int.le_refl _
theorem IsDue.stay {c:TCfg}{dom:Int}{d:TDom}{p q:Nat→Prop}{v:Int}{k:Nat}(h:IsDue c dom d p v)(hq:∀t,q t↔p t∨t=k)(h0:0≤v)(hv:v≤relAt c k d):IsDue c dom d q v:=by
 rcases h with ⟨rfl,h⟩|⟨t,h1,h2,h3,h4,h5⟩
 ·omega
 ·refine .inr ⟨t,(hq t).2 (.inl h1),h2,h3,h4,fun u hu hdu=>?_⟩
  rcases (hq u).1 hu with hu|rfl
  ·exact h5 u hu hdu
  ·exact hv
theorem IsDue.start (c:TCfg)(dom:Int)(d:TDom)(p:Nat→Prop)(h:∀t,¬ p t):IsDue c dom d p (-1):= .inl ⟨rfl,fun t ht=>absurd ht (h t)⟩
def dueUp (c:TCfg) (dom:Int) (d:TDom):Nat→Int
 |0=> -1
 |k+1=>if (nth c.tasks k).dom=dom then (if dueUp c dom d k < 0∨relAt c k d < dueUp c dom d k then relAt c k d else dueUp c dom d k) else dueUp c dom d k
def dueOf (c:TCfg) (dom:Int) (d:TDom):Int:=dueUp c dom d c.tasks.length
theorem dueUp_isDue {c:TCfg}{dom:Int}{d:TDom}(k:Nat)(hp:∀t,t < k→0≤relAt c t d):IsDue c dom d (fun t=>t < k) (dueUp c dom d k):=by
 induction k with
 |zero=>exact IsDue.start _ _ _ _ fun t h=>by omega
 |succ k ih=>
  have ih:=ih fun t ht=>hp t (by omega)
  have hq:∀t,t < k+1↔t < k∨t=k:=fun t=>by omega
  unfold dueUp
  split
  ·rename_i hd
   split
   ·exact ih.take hq hd (hp k (by omega)) (by omega)
   ·exact ih.stay hq (by omega) (by omega)
  ·rename_i hd
   exact ih.skip hq hd
def freshOf (c:TCfg):TDom:=⟨[],List.replicate c.tasks.length 0,0,List.replicate c.chans.length ⟨[],0⟩,List.replicate c.owners.length 0,List.replicate c.chans.length [],[]⟩
end
end Go.Proofs.Ytinlmkhlgclbfab
