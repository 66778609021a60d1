/- LawWinB -/
import Derived.Test.YtinlmkhlgclbfabWv31
import Derived.Test.YtinlmkhlgclbfabWv32
namespace Go.Proofs.Ytinlmkhlgclbfab
open Go.RowKit
set_option maxRecDepth 100000
set_option maxHeartbeats 8000000
def wbD0:TDom:=⟨[],[0],0,[],[],[],[]⟩
def wbK0:List (List TWay):=[[⟨0,false⟩]]
def wbActs:List TAct:=[⟨3,3,0⟩,⟨8,0,0⟩]
def wbD1:TDom:=runD oneCfg 0 wbD0 wbK0 wbActs 0 40
def wbK1:List (List TWay):=runK oneCfg 0 wbD0 wbK0 wbActs 0 40
theorem wb_new:newOf oneCfg 0=wbD0∧newErr oneCfg 0=0:=by decide+kernel
theorem wb_cache:newCOf 1 1=wbK0∧newCErr 1 1=0:=by decide+kernel
theorem wb_err:winErr oneCfg 0 wbD0 wbK0 wbActs 0 40=0:=by decide+kernel
theorem wb_run:wbD1.next=2∧wbD1.jobs.length=0∧wbD1.events.length=4∧wbK1.length=1:=by decide+kernel
theorem wb_cost:costN wbK1 ⟨2,3,0⟩=1∧costErr wbK1 ⟨2,3,0⟩=0:=by decide+kernel
theorem wb_worst:(if actErr ⟨6,0,0⟩=0 then worstA ⟨6,0,0⟩ else 0)=3∧actErr ⟨6,0,0⟩=0:=by decide+kernel
theorem wbSz0:DomSz wbD0:=⟨by decide,by decide,by decide,fun i hi=>absurd hi (by simp [wbD0]),by decide,by decide,fun i hi=>absurd hi (by simp [wbD0]),by decide⟩
structure BegG (Wa:World) (N b1 b3:Nat) (T6:TDomS) (x3:Value) (d0 d1:TDom) (k1:List (List TWay)) (l:Array Bool) (f:Nat→Value) (W:World) (F:Nat→Prop) (T:TDomS) (A:Option Addr) (n:Nat):Prop where
 lt:Below N Wa W
 lo:¬ Lst l 11→Below Wa.heap.size Wa W
 fr:∀b,F b→Wa.heap.size≤b∧b < W.heap.size
 o6:Lst l 6→Lst l 0∧Lst l 5∧Lst l 1∧Lst l 2
 o11:Lst l 11→Lst l 6∧Lst l 8
 o12:Lst l 12→Lst l 11∧Lst l 9
 e0:Lst l 0→∃S,f 21= .agg #[.int .i64 oneCfg.sets,.int .i64 oneCfg.ways,.int .i64 oneCfg.doms,.int .i64 oneCfg.pad,.int .i64 oneCfg.quantum,.slice S.a0 oneCfg.slots.length S.n0,.slice S.a1 oneCfg.owners.length S.n1,.slice S.a2 oneCfg.chans.length S.n2,.slice S.a3 oneCfg.tasks.length S.n3]∧(¬ Lst l 6→TCfg.At (Low W.heap.size) W oneCfg S)
 e5:Lst l 5→∃(A':Option Addr) (n':Nat),f 26= .slice A' 2 n'∧(¬ Lst l 6→Sl cAct (Low W.heap.size) W A' n' wbActs)
 e6:Lst l 6→f 27= .tuple #[.agg #[.slice T.a0 d1.jobs.length T.n0,.slice T.a1 d1.released.length T.n1,.int .i64 d1.next,.slice T.a2 d1.ins.length T.n2,.slice T.a3 d1.taken.length T.n3,.slice T.a4 d1.outs.length T.n4,.slice T.a5 d1.events.length T.n5],.agg #[.slice A k1.length n],.int .i64 0]∧OCache F W (.slice A k1.length n) k1
 e7:Lst l 7→Lst l 6∧f 20= .tuple #[.agg #[.slice T.a0 d1.jobs.length T.n0,.slice T.a1 d1.released.length T.n1,.int .i64 d1.next,.slice T.a2 d1.ins.length T.n2,.slice T.a3 d1.taken.length T.n3,.slice T.a4 d1.outs.length T.n4,.slice T.a5 d1.events.length T.n5],.agg #[.slice A k1.length n],.int .i64 0]
 e8:Lst l 8→Lst l 6∧f 28= .agg #[.slice T.a0 d1.jobs.length T.n0,.slice T.a1 d1.released.length T.n1,.int .i64 d1.next,.slice T.a2 d1.ins.length T.n2,.slice T.a3 d1.taken.length T.n3,.slice T.a4 d1.outs.length T.n4,.slice T.a5 d1.events.length T.n5]
 e9:Lst l 9→Lst l 6∧f 29= .agg #[.slice A k1.length n]
 e10:Lst l 10→Lst l 6∧f 30= .int .i64 0
 e13:Lst l 13→f 5= .int .i64 0
 x11:¬ Lst l 11→W.heap[b1]?=some (.cells #[.slice T6.a0 d0.jobs.length T6.n0,.slice T6.a1 d0.released.length T6.n1,.int .i64 d0.next,.slice T6.a2 d0.ins.length T6.n2,.slice T6.a3 d0.taken.length T6.n3,.slice T6.a4 d0.outs.length T6.n4,.slice T6.a5 d0.events.length T6.n5] 45)
 y11:Lst l 11→W.heap[b1]?=some (.cells #[.slice T.a0 d1.jobs.length T.n0,.slice T.a1 d1.released.length T.n1,.int .i64 d1.next,.slice T.a2 d1.ins.length T.n2,.slice T.a3 d1.taken.length T.n3,.slice T.a4 d1.outs.length T.n4,.slice T.a5 d1.events.length T.n5] 45)
 x12:¬ Lst l 12→W.heap[b3]?=some (.cells #[x3] 63)
 y12:Lst l 12→W.heap[b3]?=some (.cells #[.slice A k1.length n] 63)
def BegS (Wa:World) (N b1 b3:Nat) (T6:TDomS) (x3:Value) (d0 d1:TDom) (k1:List (List TWay)) (l:Array Bool) (f:Nat→Value) (W:World):Prop:=∃F T A n,BegG Wa N b1 b3 T6 x3 d0 d1 k1 l f W F T A n
section
variable {Wa W W' : World} {N b1 b3 : Nat} {T6 : TDomS} {x3 : Value} {d0 d1 : TDom} {k1 : List (List TWay)} {l : Array Bool} {f : Nat → Value} {F : Nat → Prop} {T : TDomS} {A : Option Addr} {n : Nat} {v : Value}
theorem begS_start (hl:∀i,¬ Lst l i)(h1:Wa.heap[b1]?=some (.cells #[.slice T6.a0 d0.jobs.length T6.n0,.slice T6.a1 d0.released.length T6.n1,.int .i64 d0.next,.slice T6.a2 d0.ins.length T6.n2,.slice T6.a3 d0.taken.length T6.n3,.slice T6.a4 d0.outs.length T6.n4,.slice T6.a5 d0.events.length T6.n5] 45))(h3:Wa.heap[b3]?=some (.cells #[x3] 63)):BegS Wa N b1 b3 T6 x3 d0 d1 k1 l f Wa.drew:=
 ⟨fun _=>False,noDomS,none,0,⟨(Below.refl _ _).drew,fun _=>(Below.refl _ _).drew,fun _ h=>h.elim,fun h=>absurd h (hl 6),fun h=>absurd h (hl 11),fun h=>absurd h (hl 12),fun h=>absurd h (hl 0),fun h=>absurd h (hl 5),fun h=>absurd h (hl 6),fun h=>absurd h (hl 7),fun h=>absurd h (hl 8),fun h=>absurd h (hl 9),fun h=>absurd h (hl 10),fun h=>absurd h (hl 13),fun _=>h1,fun h=>absurd h (hl 11),fun _=>h3,fun h=>absurd h (hl 12)⟩⟩
theorem byBg {p:Prop}(hp:p:=by first|exact h.lt|exact fun a=>h.lo fun c=>a c.fwd|exact h.fr|exact fun a=>⟨(h.o6 a.b).1.fwd,(h.o6 a.b).2.1.fwd,(h.o6 a.b).2.2.1.fwd,(h.o6 a.b).2.2.2.fwd⟩|exact fun a=>⟨(h.o11 a.b).1.fwd,(h.o11 a.b).2.fwd⟩|exact fun a=>⟨(h.o12 a.b).1.fwd,(h.o12 a.b).2.fwd⟩|(intro a;rw [upd_ne f];obtain ⟨S,e,q⟩:=h.e0 a.b;exact ⟨S,e,fun c=>(q fun e=>c e.fwd)⟩;decide)|(intro a;rw [upd_ne f];obtain ⟨A',n',e,q⟩:=h.e5 a.b;exact ⟨A',n',e,fun c=>(q fun e=>c e.fwd)⟩;decide)|(intro a;rw [upd_ne f];obtain ⟨e,e3⟩:=h.e6 a.b;exact ⟨e,e3⟩;decide)|(intro a;rw [upd_ne f];exact ⟨(h.e7 a.b).1.fwd,(h.e7 a.b).2⟩;decide)|(intro a;rw [upd_ne f];exact ⟨(h.e8 a.b).1.fwd,(h.e8 a.b).2⟩;decide)|(intro a;rw [upd_ne f];exact ⟨(h.e9 a.b).1.fwd,(h.e9 a.b).2⟩;decide)|(intro a;rw [upd_ne f];exact ⟨(h.e10 a.b).1.fwd,(h.e10 a.b).2⟩;decide)|(intro a;rw [upd_ne f];exact h.e13 a.b;decide)|exact fun a=>h.x11 fun c=>a c.fwd|exact fun a=>h.y11 a.b|exact fun a=>h.x12 fun c=>a c.fwd|exact fun a=>h.y12 a.b):p:=hp
theorem BegG.g0 (h:BegG Wa N b1 b3 T6 x3 d0 d1 k1 l f W F T A n)(hz:l.size=14)(hN:N≤Wa.heap.size){S:TCfgS}(hs:TCfg.At (Low W'.heap.size) W' oneCfg S)(hW:Below W.heap.size W W'):BegS Wa N b1 b3 T6 x3 d0 d1 k1 (l.setIfInBounds 0 true) (upd f (some 21) (.agg #[.int .i64 oneCfg.sets,.int .i64 oneCfg.ways,.int .i64 oneCfg.doms,.int .i64 oneCfg.pad,.int .i64 oneCfg.quantum,.slice S.a0 oneCfg.slots.length S.n0,.slice S.a1 oneCfg.owners.length S.n1,.slice S.a2 oneCfg.chans.length S.n2,.slice S.a3 oneCfg.tasks.length S.n3])) W':=by
 have self:Lst (l.setIfInBounds 0 true) 0:=Lst.self (by omega)
 refine ⟨F,T,A,n,?_,?_,?_,?_,?_,?_,?_,?_,?_,?_,?_,?_,?_,?_,?_,?_,?_,?_⟩
 ·exact h.lt.trans (hW.mono (by have:=h.lt.size;omega))
 ·exact fun a=>(h.lo fun c=>a c.fwd).trans (hW.mono h.lt.size)
 ·exact fun b hb=>⟨(h.fr b hb).1,by have:=(h.fr b hb).2;have:=hW.size;omega⟩
 ·exact byBg
 ·exact byBg
 ·exact byBg
 ·intro a;exact ⟨S,upd_at _ _ _,fun _=>hs⟩
 ·intro a
  rw [upd_ne f _ (show 26≠21 by decide)]
  obtain ⟨A',n',e,q⟩:=h.e5 a.b
  exact ⟨A',n',e,fun c=>((q fun e=>c e.fwd).next (Nat.le_refl _) hW).up hW.size⟩
 ·intro a
  rw [upd_ne f _ (show 27≠21 by decide)]
  obtain ⟨e,e3⟩:=h.e6 a.b
  exact ⟨e,OSl.keep e3 fun b hb=>hW.block b (h.fr b hb).2⟩
 ·exact byBg
 ·exact byBg
 ·exact byBg
 ·exact byBg
 ·exact byBg
 ·exact fun a=>(hW.block _ (blk (h.x11 fun c=>a c.fwd)).2.2).trans (h.x11 fun c=>a c.fwd)
 ·exact fun a=>(hW.block _ (blk (h.y11 a.b)).2.2).trans (h.y11 a.b)
 ·exact fun a=>(hW.block _ (blk (h.x12 fun c=>a c.fwd)).2.2).trans (h.x12 fun c=>a c.fwd)
 ·exact fun a=>(hW.block _ (blk (h.y12 a.b)).2.2).trans (h.y12 a.b)
theorem BegG.g1 (h:BegG Wa N b1 b3 T6 x3 d0 d1 k1 l f W F T A n)(hz:l.size=14)(hN:N≤Wa.heap.size):BegS Wa N b1 b3 T6 x3 d0 d1 k1 (l.setIfInBounds 1 true) (upd f (some 22) (v)) W:=by
 have self:Lst (l.setIfInBounds 1 true) 1:=Lst.self (by omega)
 exact ⟨F,T,A,n,byBg,byBg,byBg,byBg,byBg,byBg,byBg,byBg,byBg,byBg,byBg,byBg,byBg,byBg,byBg,byBg,byBg,byBg⟩
theorem BegG.g2 (h:BegG Wa N b1 b3 T6 x3 d0 d1 k1 l f W F T A n)(hz:l.size=14)(hN:N≤Wa.heap.size):BegS Wa N b1 b3 T6 x3 d0 d1 k1 (l.setIfInBounds 2 true) (upd f (some 23) (v)) W:=by
 have self:Lst (l.setIfInBounds 2 true) 2:=Lst.self (by omega)
 exact ⟨F,T,A,n,byBg,byBg,byBg,byBg,byBg,byBg,byBg,byBg,byBg,byBg,byBg,byBg,byBg,byBg,byBg,byBg,byBg,byBg⟩
theorem BegG.g3 (h:BegG Wa N b1 b3 T6 x3 d0 d1 k1 l f W F T A n)(hz:l.size=14)(hN:N≤Wa.heap.size):BegS Wa N b1 b3 T6 x3 d0 d1 k1 (l.setIfInBounds 3 true) (upd f (some 24) (v)) W:=by
 have self:Lst (l.setIfInBounds 3 true) 3:=Lst.self (by omega)
 exact ⟨F,T,A,n,byBg,byBg,byBg,byBg,byBg,byBg,byBg,byBg,byBg,byBg,byBg,byBg,byBg,byBg,byBg,byBg,byBg,byBg⟩
theorem BegG.g4 (h:BegG Wa N b1 b3 T6 x3 d0 d1 k1 l f W F T A n)(hz:l.size=14)(hN:N≤Wa.heap.size):BegS Wa N b1 b3 T6 x3 d0 d1 k1 (l.setIfInBounds 4 true) (upd f (some 25) (v)) W:=by
 have self:Lst (l.setIfInBounds 4 true) 4:=Lst.self (by omega)
 exact ⟨F,T,A,n,byBg,byBg,byBg,byBg,byBg,byBg,byBg,byBg,byBg,byBg,byBg,byBg,byBg,byBg,byBg,byBg,byBg,byBg⟩
theorem BegG.g5 (h:BegG Wa N b1 b3 T6 x3 d0 d1 k1 l f W F T A n)(hz:l.size=14)(hN:N≤Wa.heap.size){A':Option Addr}{n':Nat}(hs:Sl cAct (Low W'.heap.size) W' A' n' wbActs)(hW:Below W.heap.size W W'):BegS Wa N b1 b3 T6 x3 d0 d1 k1 (l.setIfInBounds 5 true) (upd f (some 26) (.slice A' 2 n')) W':=by
 have self:Lst (l.setIfInBounds 5 true) 5:=Lst.self (by omega)
 refine ⟨F,T,A,n,?_,?_,?_,?_,?_,?_,?_,?_,?_,?_,?_,?_,?_,?_,?_,?_,?_,?_⟩
 ·exact h.lt.trans (hW.mono (by have:=h.lt.size;omega))
 ·exact fun a=>(h.lo fun c=>a c.fwd).trans (hW.mono h.lt.size)
 ·exact fun b hb=>⟨(h.fr b hb).1,by have:=(h.fr b hb).2;have:=hW.size;omega⟩
 ·exact byBg
 ·exact byBg
 ·exact byBg
 ·intro a
  rw [upd_ne f _ (show 21≠26 by decide)]
  obtain ⟨S,e,q⟩:=h.e0 a.b
  exact ⟨S,e,fun c=>((q fun e=>c e.fwd).next (Nat.le_refl _) hW).up hW.size⟩
 ·intro a;exact ⟨A',n',upd_at _ _ _,fun _=>hs⟩
 ·intro a
  rw [upd_ne f _ (show 27≠26 by decide)]
  obtain ⟨e,e3⟩:=h.e6 a.b
  exact ⟨e,OSl.keep e3 fun b hb=>hW.block b (h.fr b hb).2⟩
 ·exact byBg
 ·exact byBg
 ·exact byBg
 ·exact byBg
 ·exact byBg
 ·exact fun a=>(hW.block _ (blk (h.x11 fun c=>a c.fwd)).2.2).trans (h.x11 fun c=>a c.fwd)
 ·exact fun a=>(hW.block _ (blk (h.y11 a.b)).2.2).trans (h.y11 a.b)
 ·exact fun a=>(hW.block _ (blk (h.x12 fun c=>a c.fwd)).2.2).trans (h.x12 fun c=>a c.fwd)
 ·exact fun a=>(hW.block _ (blk (h.y12 a.b)).2.2).trans (h.y12 a.b)
theorem BegG.g6 (h:BegG Wa N b1 b3 T6 x3 d0 d1 k1 l f W F T A n)(hz:l.size=14)(hN:N≤Wa.heap.size){F':Nat→Prop}{T':TDomS}{A':Option Addr}{n':Nat}(hn:¬ Lst l 6)(h0:Lst l 0)(h1:Lst l 1)(h2:Lst l 2)(h5:Lst l 5)(hO:OCache F' W' (.slice A' k1.length n') k1)(hF:∀b,F' b→Wa.heap.size≤b∧b < W'.heap.size)(hW:Below W.heap.size W W'):BegS Wa N b1 b3 T6 x3 d0 d1 k1 (l.setIfInBounds 6 true) (upd f (some 27) (.tuple #[.agg #[.slice T'.a0 d1.jobs.length T'.n0,.slice T'.a1 d1.released.length T'.n1,.int .i64 d1.next,.slice T'.a2 d1.ins.length T'.n2,.slice T'.a3 d1.taken.length T'.n3,.slice T'.a4 d1.outs.length T'.n4,.slice T'.a5 d1.events.length T'.n5],.agg #[.slice A' k1.length n'],.int .i64 0])) W':=by
 have self:Lst (l.setIfInBounds 6 true) 6:=Lst.self (by omega)
 refine ⟨F',T',A',n',?_,?_,?_,?_,?_,?_,?_,?_,?_,?_,?_,?_,?_,?_,?_,?_,?_,?_⟩
 ·exact h.lt.trans (hW.mono (by have:=h.lt.size;omega))
 ·exact fun a=>(h.lo fun c=>a c.fwd).trans (hW.mono h.lt.size)
 ·exact hF
 ·exact fun _=>⟨h0.fwd,h5.fwd,h1.fwd,h2.fwd⟩
 ·exact byBg
 ·exact byBg
 ·intro a
  rw [upd_ne f _ (show 21≠27 by decide)]
  obtain ⟨S,e,q⟩:=h.e0 a.b
  exact ⟨S,e,fun c=>absurd self c⟩
 ·intro a
  rw [upd_ne f _ (show 26≠27 by decide)]
  obtain ⟨A',n',e,q⟩:=h.e5 a.b
  exact ⟨A',n',e,fun c=>absurd self c⟩
 ·intro a;exact ⟨upd_at _ _ _,hO⟩
 ·intro a;exact absurd (h.e7 a.b).1 hn
 ·intro a;exact absurd (h.e8 a.b).1 hn
 ·intro a;exact absurd (h.e9 a.b).1 hn
 ·intro a;exact absurd (h.e10 a.b).1 hn
 ·exact byBg
 ·exact fun a=>(hW.block _ (blk (h.x11 fun c=>a c.fwd)).2.2).trans (h.x11 fun c=>a c.fwd)
 ·intro a;exact absurd (h.o11 a.b).1 hn
 ·exact fun a=>(hW.block _ (blk (h.x12 fun c=>a c.fwd)).2.2).trans (h.x12 fun c=>a c.fwd)
 ·intro a;exact absurd (h.o11 (h.o12 a.b).1).1 hn
theorem BegG.g7 (h:BegG Wa N b1 b3 T6 x3 d0 d1 k1 l f W F T A n)(hz:l.size=14)(hN:N≤Wa.heap.size)(h6:Lst l 6):BegS Wa N b1 b3 T6 x3 d0 d1 k1 (l.setIfInBounds 7 true) (upd f (some 20) (.tuple #[.agg #[.slice T.a0 d1.jobs.length T.n0,.slice T.a1 d1.released.length T.n1,.int .i64 d1.next,.slice T.a2 d1.ins.length T.n2,.slice T.a3 d1.taken.length T.n3,.slice T.a4 d1.outs.length T.n4,.slice T.a5 d1.events.length T.n5],.agg #[.slice A k1.length n],.int .i64 0])) W:=by
 have self:Lst (l.setIfInBounds 7 true) 7:=Lst.self (by omega)
 exact ⟨F,T,A,n,byBg,byBg,byBg,byBg,byBg,byBg,byBg,byBg,byBg,by intro a;exact ⟨h6.fwd,upd_at _ _ _⟩,byBg,byBg,byBg,byBg,byBg,byBg,byBg,byBg⟩
theorem BegG.g8 (h:BegG Wa N b1 b3 T6 x3 d0 d1 k1 l f W F T A n)(hz:l.size=14)(hN:N≤Wa.heap.size)(h6:Lst l 6):BegS Wa N b1 b3 T6 x3 d0 d1 k1 (l.setIfInBounds 8 true) (upd f (some 28) (.agg #[.slice T.a0 d1.jobs.length T.n0,.slice T.a1 d1.released.length T.n1,.int .i64 d1.next,.slice T.a2 d1.ins.length T.n2,.slice T.a3 d1.taken.length T.n3,.slice T.a4 d1.outs.length T.n4,.slice T.a5 d1.events.length T.n5])) W:=by
 have self:Lst (l.setIfInBounds 8 true) 8:=Lst.self (by omega)
 exact ⟨F,T,A,n,byBg,byBg,byBg,byBg,byBg,byBg,byBg,byBg,byBg,byBg,by intro a;exact ⟨h6.fwd,upd_at _ _ _⟩,byBg,byBg,byBg,byBg,byBg,byBg,byBg⟩
theorem BegG.g9 (h:BegG Wa N b1 b3 T6 x3 d0 d1 k1 l f W F T A n)(hz:l.size=14)(hN:N≤Wa.heap.size)(h6:Lst l 6):BegS Wa N b1 b3 T6 x3 d0 d1 k1 (l.setIfInBounds 9 true) (upd f (some 29) (.agg #[.slice A k1.length n])) W:=by
 have self:Lst (l.setIfInBounds 9 true) 9:=Lst.self (by omega)
 exact ⟨F,T,A,n,byBg,byBg,byBg,byBg,byBg,byBg,byBg,byBg,byBg,byBg,byBg,by intro a;exact ⟨h6.fwd,upd_at _ _ _⟩,byBg,byBg,byBg,byBg,byBg,byBg⟩
theorem BegG.g10 (h:BegG Wa N b1 b3 T6 x3 d0 d1 k1 l f W F T A n)(hz:l.size=14)(hN:N≤Wa.heap.size)(h6:Lst l 6):BegS Wa N b1 b3 T6 x3 d0 d1 k1 (l.setIfInBounds 10 true) (upd f (some 30) (.int .i64 0)) W:=by
 have self:Lst (l.setIfInBounds 10 true) 10:=Lst.self (by omega)
 exact ⟨F,T,A,n,byBg,byBg,byBg,byBg,byBg,byBg,byBg,byBg,byBg,byBg,byBg,byBg,by intro a;exact ⟨h6.fwd,upd_at _ _ _⟩,byBg,byBg,byBg,byBg,byBg⟩
theorem BegG.g11 (h:BegG Wa N b1 b3 T6 x3 d0 d1 k1 l f W F T A n)(hz:l.size=14)(hN:N≤Wa.heap.size)(h6:Lst l 6)(h8:Lst l 8)(hb1:b1 < Wa.heap.size)(hne:b3≠b1)(hlt:Below N Wa W')(hk:∀b,b≠b1→W'.heap[b]?=W.heap[b]?)(hsz:W'.heap.size=W.heap.size)(hnew:W'.heap[b1]?=some (.cells #[.slice T.a0 d1.jobs.length T.n0,.slice T.a1 d1.released.length T.n1,.int .i64 d1.next,.slice T.a2 d1.ins.length T.n2,.slice T.a3 d1.taken.length T.n3,.slice T.a4 d1.outs.length T.n4,.slice T.a5 d1.events.length T.n5] 45)):BegS Wa N b1 b3 T6 x3 d0 d1 k1 (l.setIfInBounds 11 true) (upd f none (v)) W':=by
 have self:Lst (l.setIfInBounds 11 true) 11:=Lst.self (by omega)
 refine ⟨F,T,A,n,?_,?_,?_,?_,?_,?_,?_,?_,?_,?_,?_,?_,?_,?_,?_,?_,?_,?_⟩
 ·exact hlt
 ·exact fun a=>absurd self a
 ·exact fun b hb=>⟨(h.fr b hb).1,by have:=(h.fr b hb).2;omega⟩
 ·exact fun a=>⟨(h.o6 a.b).1.fwd,(h.o6 a.b).2.1.fwd,(h.o6 a.b).2.2.1.fwd,(h.o6 a.b).2.2.2.fwd⟩
 ·exact fun _=>⟨h6.fwd,h8.fwd⟩
 ·exact fun a=>⟨(h.o12 a.b).1.fwd,(h.o12 a.b).2.fwd⟩
 ·intro a
  rw [upd_none]
  obtain ⟨S,e,q⟩:=h.e0 a.b
  exact ⟨S,e,fun c=>absurd (Lst.fwd h6) c⟩
 ·intro a
  rw [upd_none]
  obtain ⟨A',n',e,q⟩:=h.e5 a.b
  exact ⟨A',n',e,fun c=>absurd (Lst.fwd h6) c⟩
 ·intro a
  rw [upd_none]
  obtain ⟨e,e3⟩:=h.e6 a.b
  exact ⟨e,OSl.keep e3 fun b hb=>hk b (by have:=(h.fr b hb).1;omega)⟩
 ·intro a
  rw [upd_none]
  exact ⟨(h.e7 a.b).1.fwd,(h.e7 a.b).2⟩
 ·intro a
  rw [upd_none]
  exact ⟨(h.e8 a.b).1.fwd,(h.e8 a.b).2⟩
 ·intro a
  rw [upd_none]
  exact ⟨(h.e9 a.b).1.fwd,(h.e9 a.b).2⟩
 ·intro a
  rw [upd_none]
  exact ⟨(h.e10 a.b).1.fwd,(h.e10 a.b).2⟩
 ·intro a
  rw [upd_none]
  exact h.e13 a.b
 ·exact fun a=>absurd self a
 ·exact fun _=>hnew
 ·exact fun a=>(hk _ hne).trans (h.x12 fun c=>a c.fwd)
 ·exact fun a=>(hk _ hne).trans (h.y12 a.b)
theorem BegG.g12 (h:BegG Wa N b1 b3 T6 x3 d0 d1 k1 l f W F T A n)(hz:l.size=14)(hN:N≤Wa.heap.size)(h6:Lst l 6)(h9:Lst l 9)(h11:Lst l 11)(hb3:b3 < Wa.heap.size)(hne:b1≠b3)(hlt:Below N Wa W')(hk:∀b,b≠b3→W'.heap[b]?=W.heap[b]?)(hsz:W'.heap.size=W.heap.size)(hnew:W'.heap[b3]?=some (.cells #[.slice A k1.length n] 63)):BegS Wa N b1 b3 T6 x3 d0 d1 k1 (l.setIfInBounds 12 true) (upd f none (v)) W':=by
 have self:Lst (l.setIfInBounds 12 true) 12:=Lst.self (by omega)
 refine ⟨F,T,A,n,?_,?_,?_,?_,?_,?_,?_,?_,?_,?_,?_,?_,?_,?_,?_,?_,?_,?_⟩
 ·exact hlt
 ·exact fun a=>absurd h11.fwd a
 ·exact fun b hb=>⟨(h.fr b hb).1,by have:=(h.fr b hb).2;omega⟩
 ·exact fun a=>⟨(h.o6 a.b).1.fwd,(h.o6 a.b).2.1.fwd,(h.o6 a.b).2.2.1.fwd,(h.o6 a.b).2.2.2.fwd⟩
 ·exact fun a=>⟨(h.o11 a.b).1.fwd,(h.o11 a.b).2.fwd⟩
 ·exact fun _=>⟨h11.fwd,h9.fwd⟩
 ·intro a
  rw [upd_none]
  obtain ⟨S,e,q⟩:=h.e0 a.b
  exact ⟨S,e,fun c=>absurd (Lst.fwd h6) c⟩
 ·intro a
  rw [upd_none]
  obtain ⟨A',n',e,q⟩:=h.e5 a.b
  exact ⟨A',n',e,fun c=>absurd (Lst.fwd h6) c⟩
 ·intro a
  rw [upd_none]
  obtain ⟨e,e3⟩:=h.e6 a.b
  exact ⟨e,OSl.keep e3 fun b hb=>hk b (by have:=(h.fr b hb).1;omega)⟩
 ·intro a
  rw [upd_none]
  exact ⟨(h.e7 a.b).1.fwd,(h.e7 a.b).2⟩
 ·intro a
  rw [upd_none]
  exact ⟨(h.e8 a.b).1.fwd,(h.e8 a.b).2⟩
 ·intro a
  rw [upd_none]
  exact ⟨(h.e9 a.b).1.fwd,(h.e9 a.b).2⟩
 ·intro a
  rw [upd_none]
  exact ⟨(h.e10 a.b).1.fwd,(h.e10 a.b).2⟩
 ·intro a
  rw [upd_none]
  exact h.e13 a.b
 ·exact fun a=>(hk _ hne).trans (h.x11 fun c=>a c.fwd)
 ·exact fun a=>(hk _ hne).trans (h.y11 a.b)
 ·exact fun a=>absurd self a
 ·exact fun _=>hnew
theorem BegG.g13 (h:BegG Wa N b1 b3 T6 x3 d0 d1 k1 l f W F T A n)(hz:l.size=14)(hN:N≤Wa.heap.size):BegS Wa N b1 b3 T6 x3 d0 d1 k1 (l.setIfInBounds 13 true) (upd f (some 5) (.int .i64 0)) W:=by
 have self:Lst (l.setIfInBounds 13 true) 13:=Lst.self (by omega)
 exact ⟨F,T,A,n,byBg,byBg,byBg,byBg,byBg,byBg,byBg,byBg,byBg,byBg,byBg,byBg,byBg,by intro a;exact upd_at _ _ _,byBg,byBg,byBg,byBg⟩
end
theorem lawWindowBegun (w:World):Calls Try.prog 30 #[] w fun en w'=>en= .returned (.bool true)∧Below w.heap.size w w':=by
 have H0:=zH lawOne
 have H1:=zH (fun S W (h:TCfg.At (Low W.heap.size) W oneCfg S)=>readyNew oneCfg S 0 W.heap.size W (Nat.le_refl _) h)
 rw [wb_new.1,wb_new.2] at H1
 have HC:=zH (fun W=>cacheNew 1 1 W)
 rw [wb_cache.1,wb_cache.2] at HC
 have HR:=zH (fun S T A n Al nl W (hs:TCfg.At (Low W.heap.size) W oneCfg S) (hd:TDom.At (Low W.heap.size) W wbD0 T) (hk:Sl cWay.slice (Low W.heap.size) W A n wbK0) (hA:Sl cAct (Low W.heap.size) W Al nl wbActs)=>windowRun oneCfg S 0 wbD0 T wbK0 A n wbActs Al nl 0 40 wbSz0 (by decide) W.heap.size W (Nat.le_refl _) hs hd hk hA)
 rw [wb_err,show runD oneCfg 0 wbD0 wbK0 wbActs 0 40=wbD1 from rfl,show runK oneCfg 0 wbD0 wbK0 wbActs 0 40=wbK1 from rfl] at HR
 have HK:=zH (fun A n W (hk:Sl cWay.slice (Low W.heap.size) W A n wbK1)=>windowCost wbK1 ⟨2,3,0⟩ A n W.heap.size W (Nat.le_refl _) hk)
 rw [wb_cost.1,wb_cost.2,wb_run.2.2.2] at HK
 dsimp only at HK
 have HWs:=zH (fun W=>windowWorstE ⟨6,0,0⟩ W)
 rw [wb_worst.1,wb_worst.2] at HWs
 dsimp only at HWs
 go_enter Try.func30,Try.ntmps30
 go_wp2_with fail
 (go_at_call 49;refine (H0.out _).mono ?_;rintro e w1 ⟨S1,rfl,hs1,hb_w1⟩;refine armT w hb_w1 (fun h_w1 s_w1 t_w1 hb_w1=>?_);(try simp at t_w1))
 go_wp2_with fail
 (go_at_call 50;refine (H1.out S1 _ ((hs1.keepI byI).rng byS)).mono ?_;rintro e w2 ⟨T6,G6,rfl,hO6,hG6,hb_w2⟩;refine armT w hb_w2 (fun h_w2 s_w2 t_w2 hb_w2=>?_);(try simp at t_w2))
 go_wp2_with fail
 (go_at_call 68;refine (HC.out _).mono ?_;rintro e w3 ⟨A3,n3,rfl,hO3,hb_w3⟩;refine kbb (show w3.heap[w2.heap.size]?=some (.cells #[.slice T6.a0 wbD0.jobs.length T6.n0,.slice T6.a1 wbD0.released.length T6.n1,.int .i64 wbD0.next,.slice T6.a2 wbD0.ins.length T6.n2,.slice T6.a3 wbD0.taken.length T6.n3,.slice T6.a4 wbD0.outs.length T6.n4,.slice T6.a5 wbD0.events.length T6.n5] 45) from (hb_w3.block _ byS).trans byH) (fun d_w3 cd_w3 fd_w3 zd_w3=>?_);refine armT w hb_w3 (fun h_w3 s_w3 t_w3 hb_w3=>?_);(try simp at t_w3))
 go_wp2_with fail
 have hO6r:TDom.At (Low w2.heap.size) w3 wbD0 T6:=(hO6.read fun i b hb=>hO6.lt i b hb).keep fun b hb=>(hb_w3.block b (by have hb':b < w2.heap.size:=hb;simp;omega)).trans (heap_alloc_old _ _ hb)
 have hO3r:Sl cWay.slice (Low w3.heap.size) w3 A3 n3 wbK0:=(OSl.read hO3).mono fun b hb=>hb.2
 generalize hWa:w3.alloc (.cells #[.slice A3 wbK0.length n3] 63)=Wa
 have hbc:Wa.heap[w3.heap.size]?=some (.cells #[.slice A3 wbK0.length n3] 63):=by rw [← hWa];exact heapAt _ _ _ rfl
 have hbA:Below w3.heap.size w3 Wa:=by rw [← hWa];exact byB
 have hba:Wa.heap[w2.heap.size]?=some (.cells #[.slice T6.a0 wbD0.jobs.length T6.n0,.slice T6.a1 wbD0.released.length T6.n1,.int .i64 wbD0.next,.slice T6.a2 wbD0.ins.length T6.n2,.slice T6.a3 wbD0.taken.length T6.n3,.slice T6.a4 wbD0.outs.length T6.n4,.slice T6.a5 wbD0.events.length T6.n5] 45):=(hbA.block _ (blk d_w3).2.2).trans d_w3
 have hwa:Below w.heap.size w Wa:=h_w3.trans (hbA.mono s_w3)
 have hsa:Wa.heap.size=w3.heap.size+1:=by rw [← hWa];simp
 have hs23:w2.heap.size < w3.heap.size:=(blk d_w3).2.2
 have hb1:w2.heap.size < Wa.heap.size:=by omega
 have hb3:w3.heap.size < Wa.heap.size:=by omega
 have hne:w3.heap.size≠w2.heap.size:=by omega
 have hlo1:w.heap.size≤w2.heap.size:=s_w2
 have hlo3:w.heap.size≤w3.heap.size:=s_w3
 have hN:w.heap.size≤Wa.heap.size:=by omega
 have hdA:=zH (fun W (h:Below Wa.heap.size Wa W)=>(show TDom.At (Low W.heap.size) W wbD0 T6 from ((hO6r.keep fun b hb=>hbA.block b (by have hb':b < w2.heap.size:=hb;omega)).keep fun b hb=>h.block b (by have hb':b < w2.heap.size:=hb;omega)).up (by have:=h.size;omega)))
 have hkA:=zH (fun W (h:Below Wa.heap.size Wa W)=>(show Sl cWay.slice (Low W.heap.size) W A3 n3 wbK0 from ((hO3r.keep fun b hb=>hbA.block b hb).keep fun b hb=>h.block b (by have hb':b < w3.heap.size:=hb;omega)).up (by have:=h.size;omega)))
 clear hWa hO6 hG6 hO3 hO6r hO3r H1 HC hs1
 refine wp_region_inv [21,22,23,24,25,26,27,20,28,29,30,5] (fun l f W=>(l.size=14∧BegS Wa w.heap.size w2.heap.size w3.heap.size T6 (.slice A3 wbK0.length n3) wbD0 wbD1 wbK1 l f W)∧Fa l 1 (f 22= .agg #[.slice T6.a0 wbD0.jobs.length T6.n0,.slice T6.a1 wbD0.released.length T6.n1,.int .i64 wbD0.next,.slice T6.a2 wbD0.ins.length T6.n2,.slice T6.a3 wbD0.taken.length T6.n3,.slice T6.a4 wbD0.outs.length T6.n4,.slice T6.a5 wbD0.events.length T6.n5])∧Fa l 2 (f 23= .agg #[.slice A3 wbK0.length n3])∧Fa l 3 (f 24= .agg #[.int .i64 3,.int .i64 3,.int .i64 0])∧Fa l 4 (f 25= .agg #[.int .i64 8,.int .i64 0,.int .i64 0])) (by kernel_rfl) (by decide) (by kernel_rfl) (by intro s hs;simp at hs⊢;omega) ?_ ?_ ?_
 ·intro l hz hl
  exact ⟨⟨hz,begS_start hl hba hbc⟩,.no (hl 1),.no (hl 2),.no (hl 3),.no (hl 4)⟩
 ·refine StepsL.c 1 [] (fun l f W hR hn hb K Q2 hK=>?_) ?_
  ·obtain ⟨hS,h1,h2,h3,h4⟩:=hR
   obtain ⟨hz,hO⟩:=hS
   obtain ⟨Fx,Tx,Ax,nx,hI⟩:=hO
   clear hb
   refine ⟨?_⟩
   simp only [pfs] at hK⊢
   have HC:=H0.out W
   go_simp
   go_at_call 49
   refine HC.mono ?_
   clear HC
   rintro e w4 ⟨S4,rfl,hs4,hb4⟩
   try dsimp only
   try simp only [Act.put,List.setIfInBounds_toArray,List.set_cons_zero,List.set_cons_succ]
   refine hK.out _ _ ⟨⟨by simpa using hz,hI.g0 hz hN (hs4.rng (Nat.le_refl _)) hb4⟩,h1.k,h2.k,h3.k,h4.k⟩
  refine StepsL.c 2 [] (fun l f W hR hn hb K Q2 hK=>?_) ?_
  ·obtain ⟨hS,h1,h2,h3,h4⟩:=hR
   obtain ⟨hz,hO⟩:=hS
   obtain ⟨Fx,Tx,Ax,nx,hI⟩:=hO
   clear hb
   refine ⟨?_⟩
   simp only [pfs] at hK⊢
   obtain ⟨cX,fX,zX⟩:=blk (hI.x11 fun c=>hn (hI.o6 (hI.o11 c).1).2.2.1)
   go_simp
   refine hK.out _ _ ⟨⟨by simpa using hz,hI.g1 hz hN⟩,⟨fun _=>rfl⟩,h2.k,h3.k,h4.k⟩
  refine StepsL.c 3 [] (fun l f W hR hn hb K Q2 hK=>?_) ?_
  ·obtain ⟨hS,h1,h2,h3,h4⟩:=hR
   obtain ⟨hz,hO⟩:=hS
   obtain ⟨Fx,Tx,Ax,nx,hI⟩:=hO
   clear hb
   refine ⟨?_⟩
   simp only [pfs] at hK⊢
   obtain ⟨cX,fX,zX⟩:=blk (hI.x12 fun c=>hn (hI.o6 (hI.o11 (hI.o12 c).1).1).2.2.2)
   go_simp
   refine hK.out _ _ ⟨⟨by simpa using hz,hI.g2 hz hN⟩,h1.k,⟨fun _=>rfl⟩,h3.k,h4.k⟩
  refine StepsL.c 4 [] (fun l f W hR hn hb K Q2 hK=>?_) ?_
  ·obtain ⟨hS,h1,h2,h3,h4⟩:=hR
   obtain ⟨hz,hO⟩:=hS
   obtain ⟨Fx,Tx,Ax,nx,hI⟩:=hO
   clear hb
   refine ⟨?_⟩
   simp only [pfs] at hK⊢
   go_simp
   refine hK.out _ _ ⟨⟨by simpa using hz,hI.g3 hz hN⟩,h1.k,h2.k,⟨fun _=>rfl⟩,h4.k⟩
  refine StepsL.c 5 [] (fun l f W hR hn hb K Q2 hK=>?_) ?_
  ·obtain ⟨hS,h1,h2,h3,h4⟩:=hR
   obtain ⟨hz,hO⟩:=hS
   obtain ⟨Fx,Tx,Ax,nx,hI⟩:=hO
   clear hb
   refine ⟨?_⟩
   simp only [pfs] at hK⊢
   go_simp
   refine hK.out _ _ ⟨⟨by simpa using hz,hI.g4 hz hN⟩,h1.k,h2.k,h3.k,⟨fun _=>rfl⟩⟩
  refine StepsL.c 6 [3,4] (fun l f W hR hn hb K Q2 hK=>?_) ?_
  ·obtain ⟨hS,h1,h2,h3,h4⟩:=hR
   have q3:=h3.out (hb 3 (by simp))
   have q4:=h4.out (hb 4 (by simp))
   obtain ⟨hz,hO⟩:=hS
   obtain ⟨Fx,Tx,Ax,nx,hI⟩:=hO
   clear hb
   refine ⟨?_⟩
   simp only [pfs] at hK⊢
   (try simp only [q3,q4] at hK)
   go_simp
   refine hK.out _ _ ⟨⟨by simpa using hz,hI.g5 hz hN (sl_block (cs:=#[.int .i64 3,.int .i64 3,.int .i64 0,.int .i64 8,.int .i64 0,.int .i64 0]) (t:=65) (heap_alloc_new _ _) rfl (by simp [Low]) (Nat.le_refl _) (by simp [maxLen,wbActs])) byB⟩,h1.k,h2.k,h3.k,h4.k⟩
  refine StepsL.c 7 [0,1,2,5,0] (fun l f W hR hn hb K Q2 hK=>?_) ?_
  ·obtain ⟨hS,h1,h2,h3,h4⟩:=hR
   have q1:=h1.out (hb 1 (by simp))
   have q2:=h2.out (hb 2 (by simp))
   have hb0:=hb 0 (by simp)
   have hb1:=hb 1 (by simp)
   have hb2:=hb 2 (by simp)
   have hb5:=hb 5 (by simp)
   obtain ⟨hz,hO⟩:=hS
   obtain ⟨Fx,Tx,Ax,nx,hI⟩:=hO
   have hx0:=hb0
   have hx1:=hb1
   have hx2:=hb2
   have hx5:=hb5
   obtain ⟨Sx,e21,hs⟩:=hI.e0 hx0
   obtain ⟨Ay,ny,e26,hA⟩:=hI.e5 hx5
   have hs:=hs hn
   have hA:=hA hn
   have hlW:=hI.lo fun c=>hn (hI.o11 c).1
   have hdW:=hdA.out W hlW
   have hkW:=hkA.out W hlW
   clear hb
   refine ⟨?_⟩
   simp only [pfs] at hK⊢
   (try simp only [q1,q2,e21,e26] at hK)
   have HC:=HR.out Sx T6 A3 n3 Ay ny W hs hdW hkW hA
   go_simp
   go_at_call 32
   refine HC.mono ?_
   clear HC
   rintro e w4 ⟨T4,G4,A4,n4,F4,rfl,_,hK4,_,hF4,hb4⟩
   try dsimp only
   try simp only [Act.put,List.setIfInBounds_toArray,List.set_cons_zero,List.set_cons_succ]
   refine hK.out _ _ ⟨⟨by simpa using hz,hI.g6 hz hN hn hx0 hx1 hx2 hx5 hK4 (fun b hb=>⟨Nat.le_trans hlW.size (hF4 b hb).1,(hF4 b hb).2⟩) hb4⟩,h1.k,h2.k,h3.k,h4.k⟩
  refine StepsL.c 8 [6] (fun l f W hR hn hb K Q2 hK=>?_) ?_
  ·obtain ⟨hS,h1,h2,h3,h4⟩:=hR
   have hb6:=hb 6 (by simp)
   obtain ⟨hz,hO⟩:=hS
   obtain ⟨Fx,Tx,Ax,nx,hI⟩:=hO
   have hx6:=hb6
   have e27:=(hI.e6 hx6).1
   clear hb
   refine ⟨?_⟩
   simp only [pfs] at hK⊢
   (try simp only [e27] at hK)
   go_simp
   refine hK.out _ _ ⟨⟨by simpa using hz,hI.g7 hz hN hx6⟩,h1.k,h2.k,h3.k,h4.k⟩
  refine StepsL.c 9 [7] (fun l f W hR hn hb K Q2 hK=>?_) ?_
  ·obtain ⟨hS,h1,h2,h3,h4⟩:=hR
   have hb7:=hb 7 (by simp)
   obtain ⟨hz,hO⟩:=hS
   obtain ⟨Fx,Tx,Ax,nx,hI⟩:=hO
   have hx7:=hb7
   have e20:=(hI.e7 hx7).2
   clear hb
   refine ⟨?_⟩
   simp only [pfs] at hK⊢
   (try simp only [e20] at hK)
   go_simp
   refine hK.out _ _ ⟨⟨by simpa using hz,hI.g8 hz hN (hI.e7 hx7).1⟩,h1.k,h2.k,h3.k,h4.k⟩
  refine StepsL.c 10 [7] (fun l f W hR hn hb K Q2 hK=>?_) ?_
  ·obtain ⟨hS,h1,h2,h3,h4⟩:=hR
   have hb7:=hb 7 (by simp)
   obtain ⟨hz,hO⟩:=hS
   obtain ⟨Fx,Tx,Ax,nx,hI⟩:=hO
   have hx7:=hb7
   have e20:=(hI.e7 hx7).2
   clear hb
   refine ⟨?_⟩
   simp only [pfs] at hK⊢
   (try simp only [e20] at hK)
   go_simp
   refine hK.out _ _ ⟨⟨by simpa using hz,hI.g9 hz hN (hI.e7 hx7).1⟩,h1.k,h2.k,h3.k,h4.k⟩
  refine StepsL.c 11 [7] (fun l f W hR hn hb K Q2 hK=>?_) ?_
  ·obtain ⟨hS,h1,h2,h3,h4⟩:=hR
   have hb7:=hb 7 (by simp)
   obtain ⟨hz,hO⟩:=hS
   obtain ⟨Fx,Tx,Ax,nx,hI⟩:=hO
   have hx7:=hb7
   have e20:=(hI.e7 hx7).2
   clear hb
   refine ⟨?_⟩
   simp only [pfs] at hK⊢
   (try simp only [e20] at hK)
   go_simp
   refine hK.out _ _ ⟨⟨by simpa using hz,hI.g10 hz hN (hI.e7 hx7).1⟩,h1.k,h2.k,h3.k,h4.k⟩
  refine StepsL.c 12 [8,6,0,1,2,3,4,5,6,7,8] (fun l f W hR hn hb K Q2 hK=>?_) ?_
  ·obtain ⟨hS,h1,h2,h3,h4⟩:=hR
   have q1:=h1.out (hb 1 (by simp))
   have q2:=h2.out (hb 2 (by simp))
   have q3:=h3.out (hb 3 (by simp))
   have q4:=h4.out (hb 4 (by simp))
   have hb6:=hb 6 (by simp)
   have hb8:=hb 8 (by simp)
   obtain ⟨hz,hO⟩:=hS
   obtain ⟨Fx,Tx,Ax,nx,hI⟩:=hO
   have hx6:=hb6
   have hx8:=hb8
   have e28:=(hI.e8 hx8).2
   have hbx:=hI.x11 hn
   obtain ⟨cX,fX,zX⟩:=blk hbx
   clear hb
   refine ⟨?_⟩
   simp only [pfs] at hK⊢
   (try simp only [q1,q2,q3,q4,e28] at hK)
   go_simp
   refine hK.out undef _ ⟨⟨by simpa using hz,hI.g11 hz hN hx6 hx8 hb1 hne (dom_below hI.lt hlo1) (fun b hb=>dom_far hb) (by simp) (dom_set hbx)⟩,h1.k,h2.k,h3.k,h4.k⟩
  refine StepsL.c 13 [9,11,0,1,2,3,4,5,6,7,8,9,11] (fun l f W hR hn hb K Q2 hK=>?_) ?_
  ·obtain ⟨hS,h1,h2,h3,h4⟩:=hR
   have q1:=h1.out (hb 1 (by simp))
   have q2:=h2.out (hb 2 (by simp))
   have q3:=h3.out (hb 3 (by simp))
   have q4:=h4.out (hb 4 (by simp))
   have hb1:=hb 1 (by simp)
   have hb6:=hb 6 (by simp)
   have hb9:=hb 9 (by simp)
   have hb11:=hb 11 (by simp)
   obtain ⟨hz,hO⟩:=hS
   obtain ⟨Fx,Tx,Ax,nx,hI⟩:=hO
   have hx6:=hb6
   have hx9:=hb9
   have hx11:=hb11
   have e29:=(hI.e9 hx9).2
   have hbx:=hI.x12 hn
   obtain ⟨cX,fX,zX⟩:=blk hbx
   clear hb
   refine ⟨?_⟩
   simp only [pfs] at hK⊢
   (try simp only [q1,q2,q3,q4,e29] at hK)
   go_simp
   refine hK.out undef _ ⟨⟨by simpa using hz,hI.g12 hz hN hx6 hx9 hx11 hb3 hne.symm (Below.setCell hI.lt hlo3 _) (fun b hb=>Below.heap_setCell _ _ _ _ hb) (by simp) (by have:=heap_set_same (i:=0) (u:= .slice Ax wbK1.length nx) hbx;simpa using this)⟩,h1.k,h2.k,h3.k,h4.k⟩
  refine StepsL.c 14 [10,12,0,1,2,3,4,5,6,7,8,9,10,11,12] (fun l f W hR hn hb K Q2 hK=>?_) ?_
  ·obtain ⟨hS,h1,h2,h3,h4⟩:=hR
   have q1:=h1.out (hb 1 (by simp))
   have q2:=h2.out (hb 2 (by simp))
   have q3:=h3.out (hb 3 (by simp))
   have q4:=h4.out (hb 4 (by simp))
   have hb1:=hb 1 (by simp)
   have hb10:=hb 10 (by simp)
   obtain ⟨hz,hO⟩:=hS
   obtain ⟨Fx,Tx,Ax,nx,hI⟩:=hO
   have hx10:=hb10
   have e30:=(hI.e10 hx10).2
   clear hb
   refine ⟨?_⟩
   simp only [pfs] at hK⊢
   (try simp only [q1,q2,q3,q4,e30] at hK)
   go_simp
   refine hK.out _ _ ⟨⟨by simpa using hz,hI.g13 hz hN⟩,h1.k,h2.k,h3.k,h4.k⟩
  exact StepsL.nil
 ·intro l f W hR hall
  obtain ⟨hS,h1,h2,h3,h4⟩:=hR
  have q1:=h1.out (hall 1 (by decide))
  have q2:=h2.out (hall 2 (by decide))
  have q3:=h3.out (hall 3 (by decide))
  have q4:=h4.out (hall 4 (by decide))
  clear h1 h2 h3 h4
  obtain ⟨hz,hO⟩:=hS
  obtain ⟨Fx,Tx,Ax,nx,hI⟩:=hO
  have e5:=hI.e13 (hall 13 (by decide))
  have y11:=hI.y11 (hall 11 (by decide))
  have y12:=hI.y12 (hall 12 (by decide))
  have hK:=(hI.e6 (hall 6 (by decide))).2
  have hkW:Sl cWay.slice (Low W.heap.size) W Ax nx wbK1:=(OSl.read hK).mono fun b hb=>(hI.fr b hb).2
  have hwW:Below w.heap.size w W:=hwa.trans hI.lt
  rw [wb_run.1,wb_run.2.1,wb_run.2.2.1] at y11
  rw [wb_run.2.2.2] at y12
  obtain ⟨c11,f11,z11⟩:=blk y11
  obtain ⟨c12,f12,z12⟩:=blk y12
  simp only [pfs]
  simp only [e5]
  obtain ⟨Wb,rfl⟩:∃X,X=W:=⟨_,rfl⟩
  clear q1 q2 q3 q4 hall hI hK hz hwa hdA hkA HR H0
  have HK9:=zH (HK.out Ax nx Wb hkW)
  clear hkW HK
  replace y11:=zH y11
  replace y12:=zH y12
  go_wp2_with fail
  go_at_call 24
  refine HK9.out.mono ?_
  rintro e w8 ⟨A8,n8,rfl,hO8,hb8⟩
  have y8:=(hb8.block _ z11).trans y11.out
  clear hO8
  go_wp2_with fail
  obtain ⟨W9,hW9⟩:∃X,X=w8.alloc (.cells #[.slice A8 (costRes wbK1 ⟨2,3,0⟩).length n8] 63):=⟨_,rfl⟩
  rw [← hW9]
  have y9:=(show W9.heap[w2.heap.size]?=w8.heap[w2.heap.size]? by rw [hW9];exact heap_alloc_old _ _ (by have:=hb8.size;omega)).trans y8
  have hb9:Below Wb.heap.size Wb W9:=by rw [hW9];exact Below.alloc hb8 hb8.size _
  clear hW9
  go_at_call 25
  refine (HWs.out _).mono ?_
  rintro e w10 ⟨rfl,hb10⟩
  have z9:=(blk y9).2.2
  have y10:=(hb10.block _ z9).trans y9
  have hb10':=hb9.trans (hb10.mono hb9.size)
  obtain ⟨c10,f10,z10⟩:=blk y10
  clear hb10 hb9 hb8 c11 f11 c12 f12 y8 y9
  go_wp2_with fail
  go_ret
  exact ⟨rfl,hwW.trans (hb10'.mono hwW.size)⟩
end Go.Proofs.Ytinlmkhlgclbfab
