/- WinS -/
import Derived.Test.YtinlmkhlgclbfabWv34
namespace Go.Proofs.Ytinlmkhlgclbfab
open Go.RowKit
set_option maxRecDepth 100000
set_option maxHeartbeats 4000000
structure WmG (w:World) (c:TCfg) (S:TCfgS) (E:Nat→Prop) (d:TDom) (k:List (List TWay)) (W:World) (G:Nat→Nat→Prop) (T:TDomS) (A:Option Addr) (n:Nat) (F:Nat→Prop):Prop where
 dp:Dp (w.heap.size+1) G w.heap.size W c S d T
 kb:W.heap[w.heap.size+2]?=some (.cells #[.slice A k.length n] 63)
 kr:Sl cWay.slice F W A n k
 ff:∀b,F b→b < W.heap.size∧(b+2 < w.heap.size∨w.heap.size+5≤b)∧∀i,¬ G i b
 gg:∀i b,G i b→w.heap.size+5≤b
 below:Below w.heap.size w W
 b0:W.heap[w.heap.size]?=some (.cells #[.int .i64 c.sets,.int .i64 c.ways,.int .i64 c.doms,.int .i64 c.pad,.int .i64 c.quantum,.slice S.a0 c.slots.length S.n0,.slice S.a1 c.owners.length S.n1,.slice S.a2 c.chans.length S.n2,.slice S.a3 c.tasks.length S.n3] 27)
 b3:W.heap[w.heap.size+3]?=some (.cells #[.slice none 0 0,.slice none 0 0,.int .i64 0,.slice none 0 0,.slice none 0 0,.slice none 0 0,.slice none 0 0] 45)
 b4:W.heap[w.heap.size+4]?=some (.cells #[.slice none 0 0] 63)
 ee:∀b,E b→w.heap.size+5≤b∧b < W.heap.size∧(∀i,¬ G i b)∧¬ F b
section
variable {w : World} {c : TCfg} {S : TCfgS} {E : Nat → Prop} {d d' : TDom} {k k' : List (List TWay)} {W W' : World} {G G' : Nat → Nat → Prop} {T T' : TDomS} {A A' : Option Addr} {n n' : Nat} {F F' : Nat → Prop}
theorem WmG.size (h:WmG w c S E d k W G T A n F):w.heap.size+5≤W.heap.size:=(blk h.b4).2.2
theorem WmG.turn (h:WmG w c S E d k W G T A n F)(hK:Dp (w.heap.size+1) G' w.heap.size W' c S d' T')(hE:KEff (w.heap.size+1) w.heap.size G G' W W'):WmG w c S E d' k W' G' T' A n F∧∀b,E b→W'.heap[b]?=W.heap[b]?:=by
 have hs:=h.size
 have hz:=hE.below.size
 have hne:∀b,b < W.heap.size→(∀i,¬ G i b)→∀i,¬ G' i b:=fun b hb hn i hi=>by
  rcases hE.grow i b hi with e|e
  ·exact hn i e
  ·omega
 have hlow:∀b,b < w.heap.size+5→∀i,¬ G i b:=fun b hb i hi=>by have:=h.gg i b hi;omega
 have kp:∀b,w.heap.size≤b→b < w.heap.size+5→b≠w.heap.size+1→W'.heap[b]?=W.heap[b]?:=fun b _ h2 h3=>hE.keep b (by omega) h3 (hlow b h2)
 refine ⟨⟨hK,(kp _ (by omega) (by omega) (by omega)).trans h.kb,h.kr.keep fun b hb=>hE.keep b (h.ff b hb).1 (by have:=(h.ff b hb).2.1;omega) (h.ff b hb).2.2,fun b hb=>⟨by have:=(h.ff b hb).1;omega,(h.ff b hb).2.1,hne b (h.ff b hb).1 (h.ff b hb).2.2⟩,fun i b hi=>?_,h.below.trans hE.below,
  (kp _ (by omega) (by omega) (by omega)).trans h.b0,(kp _ (by omega) (by omega) (by omega)).trans h.b3,(kp _ (by omega) (by omega) (by omega)).trans h.b4,fun b hb=>?_⟩,fun b hb=>?_⟩
 ·rcases hE.grow i b hi with e|e
  ·exact h.gg i b e
  ·omega
 ·obtain ⟨e1,e2,e3,e4⟩:=h.ee b hb
  exact ⟨e1,by omega,hne b e2 e3,e4⟩
 ·obtain ⟨e1,e2,e3,e4⟩:=h.ee b hb
  exact hE.keep b e2 (by omega) e3
theorem WmG.ext (h:WmG w c S E d k W G T A n F)(hb:Below W.heap.size W W'):WmG w c S E d k W' G T A n F:=(h.turn (h.dp.ext hb) (KEff.ext (by have:=h.size;omega) hb)).1
theorem WmG.alloc (h:WmG w c S E d k W G T A n F)(o:Obj):WmG w c S (fun b=>E b∨b=W.heap.size) d k (W.alloc o) G T A n F∧(W.alloc o).heap[W.heap.size]?=some o∧∀b,E b→(W.alloc o).heap[b]?=W.heap[b]?:=by
 have hb:Below W.heap.size W (W.alloc o):=Below.alloc (Below.refl _ _) (Nat.le_refl _) _
 have h2:=h.ext hb
 have hs:=h.size
 refine ⟨⟨h2.dp,h2.kb,h2.kr,h2.ff,h2.gg,h2.below,h2.b0,h2.b3,h2.b4,fun b hb=>?_⟩,heap_alloc_new _ _,fun b hb=>heap_alloc_old _ _ (h.ee b hb).2.1⟩
 rcases hb with hb|rfl
 ·exact h2.ee b hb
 ·exact ⟨hs,by simp,fun i hi=>by have:=h.dp.dom.lt i _ hi;omega,fun hf=>by have:=(h.ff _ hf).1;omega⟩
theorem WmG.set (h:WmG w c S E d k W G T A n F){b:Nat}(hb:E b)(i:Nat)(u:Value):WmG w c S E d k (W.setCell ⟨b,i,none⟩ u) G T A n F∧∀x,x≠b→(W.setCell ⟨b,i,none⟩ u).heap[x]?=W.heap[x]?:=by
 obtain ⟨e1,e2,e3,e4⟩:=h.ee b hb
 have kp:∀x,x≠b→(W.setCell ⟨b,i,none⟩ u).heap[x]?=W.heap[x]?:=fun x hx=>Below.heap_setCell _ _ _ _ hx
 have hlo:=h.dp.lo
 refine ⟨⟨⟨(kp _ (by omega)).trans h.dp.blk,h.dp.cfg.keep fun x hx=>kp x (by have hx':x < w.heap.size:=hx;omega),h.dp.dom.setCell e3,h.dp.apart,hlo⟩,(kp _ (by omega)).trans h.kb,h.kr.keep fun x hx=>kp x (fun e=>e4 (e ▸ hx)),fun x hx=>by simpa using h.ff x hx,h.gg,Below.setCell h.below (show w.heap.size≤b by omega) _,(kp _ (by omega)).trans h.b0,(kp _ (by omega)).trans h.b3,(kp _ (by omega)).trans h.b4,fun x hx=>by simpa using h.ee x hx⟩,kp⟩
theorem WmG.cache (h:WmG w c S E d k W G T A n F)(hb:Below W.heap.size W W')(hr:Sl cWay.slice (Rng W.heap.size W'.heap.size) W' A' n' k'):WmG w c S E d k' (W'.setCell ⟨w.heap.size+2,0,none⟩ (.slice A' k'.length n')) G T A' n' (Rng W.heap.size W'.heap.size)∧(∀x,x≠w.heap.size+2→(W'.setCell ⟨w.heap.size+2,0,none⟩ (.slice A' k'.length n')).heap[x]?=W'.heap[x]?)∧∀b,E b→(W'.setCell ⟨w.heap.size+2,0,none⟩ (.slice A' k'.length n')).heap[b]?=W.heap[b]?:=by
 have h2:=h.ext hb
 have hs:=h.size
 have kp:∀x,x≠w.heap.size+2→(W'.setCell ⟨w.heap.size+2,0,none⟩ (.slice A' k'.length n')).heap[x]?=W'.heap[x]?:=fun x hx=>Below.heap_setCell _ _ _ _ hx
 refine ⟨⟨⟨(kp _ (by omega)).trans h2.dp.blk,h2.dp.cfg.keep fun x hx=>kp x (by have hx':x < w.heap.size:=hx;omega),h2.dp.dom.setCell fun i hi=>absurd (show w.heap.size+5≤w.heap.size+2 from h.gg i _ hi) (by omega),h2.dp.apart,h2.dp.lo⟩,?_,hr.keep fun x hx=>kp x (by have:=hx.1;omega),fun x hx=>⟨by simpa using hx.2,.inr (by have:=hx.1;omega),fun i hi=>by have:=h.dp.dom.lt i x hi;have:=hx.1;omega⟩,h2.gg,Below.setCell h2.below (show w.heap.size≤w.heap.size+2 by omega) _,(kp _ (by omega)).trans h2.b0,(kp _ (by omega)).trans h2.b3,(kp _ (by omega)).trans h2.b4,fun x hx=>?_⟩,kp,fun x hx=>?_⟩
 ·have:=heap_set_same (i:=0) (u:= .slice A' k'.length n') h2.kb
  simpa using this
 ·obtain ⟨e1,e2,e3,e4⟩:=h2.ee x hx
  exact ⟨e1,by simpa using e2,e3,fun hf=>by have:=(h.ee x hx).2.1;have:=hf.1;omega⟩
 ·have:=h.ee x hx
  exact (kp x (by omega)).trans (hb.block x this.2.1)
theorem WmG.put (h:WmG w c S E d k W G T A n F)(hO:DomO G' W' d' T')(hE:DEff w.heap.size G G' W W'):
  WmG w c S E d' k (((((((W'.setCell ⟨w.heap.size+1,0,none⟩ (.slice T'.a0 d'.jobs.length T'.n0)).setCell ⟨w.heap.size+1,1,none⟩ (.slice T'.a1 d'.released.length T'.n1)).setCell ⟨w.heap.size+1,2,none⟩ (.int .i64 d'.next)).setCell ⟨w.heap.size+1,3,none⟩ (.slice T'.a2 d'.ins.length T'.n2)).setCell ⟨w.heap.size+1,4,none⟩ (.slice T'.a3 d'.taken.length T'.n3)).setCell ⟨w.heap.size+1,5,none⟩ (.slice T'.a4 d'.outs.length T'.n4)).setCell ⟨w.heap.size+1,6,none⟩ (.slice T'.a5 d'.events.length T'.n5)) G' T' A n F∧
  W'.heap[w.heap.size+1]?=some (.cells #[.slice T.a0 d.jobs.length T.n0,.slice T.a1 d.released.length T.n1,.int .i64 d.next,.slice T.a2 d.ins.length T.n2,.slice T.a3 d.taken.length T.n3,.slice T.a4 d.outs.length T.n4,.slice T.a5 d.events.length T.n5] 45)∧
  ∀b,E b→(((((((W'.setCell ⟨w.heap.size+1,0,none⟩ (.slice T'.a0 d'.jobs.length T'.n0)).setCell ⟨w.heap.size+1,1,none⟩ (.slice T'.a1 d'.released.length T'.n1)).setCell ⟨w.heap.size+1,2,none⟩ (.int .i64 d'.next)).setCell ⟨w.heap.size+1,3,none⟩ (.slice T'.a2 d'.ins.length T'.n2)).setCell ⟨w.heap.size+1,4,none⟩ (.slice T'.a3 d'.taken.length T'.n3)).setCell ⟨w.heap.size+1,5,none⟩ (.slice T'.a4 d'.outs.length T'.n4)).setCell ⟨w.heap.size+1,6,none⟩ (.slice T'.a5 d'.events.length T'.n5)).heap[b]?=W.heap[b]?:=by
 obtain ⟨h1,h2,h3⟩:=dp_put h.dp hO hE
 exact ⟨(h.turn h2 h3).1,h1,(h.turn h2 h3).2⟩
theorem WmG.next (h:WmG w c S E d k W G T A n F)(x:Int):WmG w c S E {d with next:=x} k (W.setCell ⟨w.heap.size+1,2,none⟩ (.int .i64 x)) G T A n F∧∀b,E b→(W.setCell ⟨w.heap.size+1,2,none⟩ (.int .i64 x)).heap[b]?=W.heap[b]?:=by
 have hk:∀b,b≠w.heap.size+1→(W.setCell ⟨w.heap.size+1,2,none⟩ (.int .i64 x)).heap[b]?=W.heap[b]?:=fun b hb=>Below.heap_setCell _ _ _ _ hb
 have hD:=h.dp.dom.setCell (p:=⟨w.heap.size+1,2,none⟩) (u:= .int .i64 x) fun i hb=>(h.dp.apart i _ hb).1 rfl
 refine h.turn (d':= {d with next:=x}) (T':=T) ⟨?_,h.dp.cfg.keep fun b hb=>hk b (by have hb':b < w.heap.size:=hb;omega),⟨hD.o0,hD.o1,hD.o2,hD.o3,hD.o4,hD.o5,hD.dis,hD.lt⟩,h.dp.apart,h.dp.lo⟩ ⟨Below.setCell (Below.refl _ _) (by simp) _,fun b _ hb _=>hk b hb,fun _ _ h=> .inl h⟩
 have:=heap_set_same (i:=2) (u:= .int .i64 x) h.dp.blk
 simpa using this
theorem WmG.cell (h:WmG w c S E d k W G T A n F){i g o:Nat}{u:Value}(hG:G i g)(hd:DomO G (W.setCell ⟨g,o,none⟩ u) d' T)(e1:d'.jobs.length=d.jobs.length)(e2:d'.released.length=d.released.length)(e3:d'.next=d.next)(e4:d'.ins.length=d.ins.length)(e5:d'.taken.length=d.taken.length)(e6:d'.outs.length=d.outs.length)(e7:d'.events.length=d.events.length):
  WmG w c S E d' k (W.setCell ⟨g,o,none⟩ u) G T A n F∧∀b,E b→(W.setCell ⟨g,o,none⟩ u).heap[b]?=W.heap[b]?:=by
 obtain ⟨h1,h2⟩:=dp_cell h.dp hG hd e1 e2 e3 e4 e5 e6 e7
 exact h.turn h1 h2
theorem WmG.job (h:WmG w c S E d k W G T A n F){i:Nat}(hi:i < d.jobs.length):∃g,T.a0=some ⟨g,0,none⟩∧G 0 g∧g < W.heap.size∧g≠w.heap.size+1∧(∀j u,(nth d.jobs i).cells[j]?=some u→W.cell? ⟨g,i*6+j,none⟩=some u)∧(∀o,W.frozen? ⟨g,o,none⟩=false)∧
  ∀x:TJob,WmG w c S E {d with jobs:=d.jobs.set i x} k ((((((W.setCell ⟨g,i*6,none⟩ (.int .i64 x.task)).setCell ⟨g,i*6+1,none⟩ (.int .i64 x.number)).setCell ⟨g,i*6+2,none⟩ (.int .i64 x.released)).setCell ⟨g,i*6+3,none⟩ (.int .i64 x.used)).setCell ⟨g,i*6+4,none⟩ (.bool x.ran)).setCell ⟨g,i*6+5,none⟩ (.bool x.missed)) G T A n F∧
   ∀b,E b→((((((W.setCell ⟨g,i*6,none⟩ (.int .i64 x.task)).setCell ⟨g,i*6+1,none⟩ (.int .i64 x.number)).setCell ⟨g,i*6+2,none⟩ (.int .i64 x.released)).setCell ⟨g,i*6+3,none⟩ (.int .i64 x.used)).setCell ⟨g,i*6+4,none⟩ (.bool x.ran)).setCell ⟨g,i*6+5,none⟩ (.bool x.missed)).heap[b]?=W.heap[b]?:=by
 obtain ⟨g,e,hG,hg,hc,hf,hset⟩:=h.dp.dom.job hi
 refine ⟨g,e,hG,hg,(h.dp.apart 0 g hG).1,hc,hf,fun x=>?_⟩
 have step:∀(D:TDom) (V:World) (j:Nat) (y y':TJob) (u:Value),WmG w c S E D k V G T A n F→i < D.jobs.length→nth D.jobs i=y→j < 6→TJob.cells y'=y.cells.set j u→
   WmG w c S E {D with jobs:=D.jobs.set i y'} k (V.setCell ⟨g,i*6+j,none⟩ u) G T A n F∧i < ({D with jobs:=D.jobs.set i y'} :TDom).jobs.length∧nth ({D with jobs:=D.jobs.set i y'} :TDom).jobs i=y'∧∀b,E b→(V.setCell ⟨g,i*6+j,none⟩ u).heap[b]?=V.heap[b]?:=by
  intro D V j y y' u hD hiD hy hj hc'
  obtain ⟨g',e',hG',_,_,_,hs'⟩:=hD.dp.dom.job hiD
  obtain rfl:g=g':=by rw [e] at e';injection e' with e';injection e'
  have:=hD.cell hG' (hs' j u y' hj (by rw [hy];exact hc')) (by simp) rfl rfl rfl rfl rfl rfl
  exact ⟨this.1,by simpa using hiD,nth_set_self (by exact hiD),this.2⟩
 obtain ⟨a1,l1,n1,k1⟩:=step d W 0 _ ⟨x.task,(nth d.jobs i).number,(nth d.jobs i).released,(nth d.jobs i).used,(nth d.jobs i).ran,(nth d.jobs i).missed⟩ (.int .i64 x.task) h hi rfl (by omega) rfl
 obtain ⟨a2,l2,n2,k2⟩:=step _ _ 1 _ ⟨x.task,x.number,(nth d.jobs i).released,(nth d.jobs i).used,(nth d.jobs i).ran,(nth d.jobs i).missed⟩ (.int .i64 x.number) a1 l1 n1 (by omega) rfl
 obtain ⟨a3,l3,n3,k3⟩:=step _ _ 2 _ ⟨x.task,x.number,x.released,(nth d.jobs i).used,(nth d.jobs i).ran,(nth d.jobs i).missed⟩ (.int .i64 x.released) a2 l2 n2 (by omega) rfl
 obtain ⟨a4,l4,n4,k4⟩:=step _ _ 3 _ ⟨x.task,x.number,x.released,x.used,(nth d.jobs i).ran,(nth d.jobs i).missed⟩ (.int .i64 x.used) a3 l3 n3 (by omega) rfl
 obtain ⟨a5,l5,n5,k5⟩:=step _ _ 4 _ ⟨x.task,x.number,x.released,x.used,x.ran,(nth d.jobs i).missed⟩ (.bool x.ran) a4 l4 n4 (by omega) rfl
 obtain ⟨a6,l6,n6,k6⟩:=step _ _ 5 _ x (.bool x.missed) a5 l5 n5 (by omega) rfl
 simp only [List.set_set] at a6
 exact ⟨a6,fun b hb=>(k6 b hb).trans ((k5 b hb).trans ((k4 b hb).trans ((k3 b hb).trans ((k2 b hb).trans (k1 b hb)))))⟩
theorem WmG.taken (h:WmG w c S E d k W G T A n F){i:Nat}(hi:i < d.taken.length):∃g,T.a3=some ⟨g,0,none⟩∧G 3 g∧g < W.heap.size∧g≠w.heap.size+1∧W.cell? ⟨g,i,none⟩=some (.int .i64 (nth d.taken i))∧(∀o,W.frozen? ⟨g,o,none⟩=false)∧
  ∀x:Int,WmG w c S E {d with taken:=d.taken.set i x} k (W.setCell ⟨g,i,none⟩ (.int .i64 x)) G T A n F∧∀b,E b→(W.setCell ⟨g,i,none⟩ (.int .i64 x)).heap[b]?=W.heap[b]?:=by
 obtain ⟨g,e,hG,hg,hc,hf,hset⟩:=h.dp.dom.taken hi
 exact ⟨g,e,hG,hg,(h.dp.apart 3 g hG).1,hc,hf,fun x=>h.cell hG (hset x) rfl rfl rfl rfl (by simp) rfl rfl⟩
theorem WmG.ring (h:WmG w c S E d k W G T A n F){i:Nat}(hi:i < d.ins.length):∃g Ar cr,T.a2=some ⟨g,0,none⟩∧G 2 g∧g < W.heap.size∧g≠w.heap.size+1∧W.cell? ⟨g,i*2,none⟩=some (.slice Ar (nth d.ins i).vals.length cr)∧W.cell? ⟨g,i*2+1,none⟩=some (.int .i64 (nth d.ins i).lost)∧(∀o,W.frozen? ⟨g,o,none⟩=false)∧Sl cInt (G 2) W Ar cr (nth d.ins i).vals∧
  ∀(W':World) (A':Option Addr) (c':Nat) (r:TRing),Below W.heap.size W W'→ownsZ W' 3 1 (.slice A' r.vals.length c') r.vals.length (r.vals.flatMap fun n=>[Value.int .i64 n])→(∀b,rowZ (.slice A' r.vals.length c')=some b→W.heap.size≤b∧b < W'.heap.size∧¬ E b)→
   (∀b,E b→b < W.heap.size)→WmG w c S E {d with ins:=d.ins.set i r} k ((W'.setCell ⟨g,i*2,none⟩ (.slice A' r.vals.length c')).setCell ⟨g,i*2+1,none⟩ (.int .i64 r.lost)) (addG G 2 W.heap.size W'.heap.size) T A n F∧∀b,E b→((W'.setCell ⟨g,i*2,none⟩ (.slice A' r.vals.length c')).setCell ⟨g,i*2+1,none⟩ (.int .i64 r.lost)).heap[b]?=W.heap[b]?:=by
 obtain ⟨g,Ar,cr,e,hG,hg,c0,c1,hf,hsl,hset⟩:=h.dp.dom.ring hi
 have hap:=h.dp.apart 2 g hG
 refine ⟨g,Ar,cr,e,hG,hg,hap.1,c0,c1,hf,hsl,fun W' A' c' r hb hown hrow _=>?_⟩
 have hD:=hset W' A' c' r (fun b hb1=>hb.block b hb1) hb.size hown (fun b hb1=>⟨(hrow b hb1).1,(hrow b hb1).2.1⟩)
 have hlo:=h.dp.lo
 have kp:∀b,b < W.heap.size→b≠g→((W'.setCell ⟨g,i*2,none⟩ (.slice A' r.vals.length c')).setCell ⟨g,i*2+1,none⟩ (.int .i64 r.lost)).heap[b]?=W.heap[b]?:=fun b hb1 hne=>heap_set_far (heap_set_far (hb.block b hb1) hne) hne
 have hz:=(blk h.dp.blk).2.2
 refine h.turn (d':= {d with ins:=d.ins.set i r}) (T':=T) ⟨?_,h.dp.cfg.keep fun b hb1=>kp b (by have hb':b < w.heap.size:=hb1;have:=h.size;omega) (by have hb':b < w.heap.size:=hb1;omega),hD,fun j b hj=>?_,hlo⟩ ⟨Below.setCell (Below.setCell (hb.mono (by have:=h.size;omega)) (by have:=hap.2;simpa using this) _) (by have:=hap.2;simpa using this) _,fun b hb1 _ hn=>kp b hb1 (fun e=>hn 2 (e ▸ hG)),fun j b hj=>?_⟩
 ·rw [kp _ hz (Ne.symm hap.1)]
  simpa using h.dp.blk
 ·rcases hj with hj|hj
  ·exact h.dp.apart j b hj
  ·have:=h.size;omega
 ·rcases hj with hj|hj
  ·exact .inl hj
  ·exact .inr ⟨hj.2.1,by simpa using hj.2.2⟩
theorem WmG.out (h:WmG w c S E d k W G T A n F){i:Nat}(hi:i < d.outs.length):∃(g:Nat) (Ar:Option Addr) (cr:Nat) (Gi:Nat→Prop),T.a4=some ⟨g,0,none⟩∧G 4 g∧g < W.heap.size∧g≠w.heap.size+1∧W.cell? ⟨g,i,none⟩=some (.slice Ar (nth d.outs i).length cr)∧(∀o,W.frozen? ⟨g,o,none⟩=false)∧
  ownsZ W 3 1 (.slice Ar (nth d.outs i).length cr) (nth d.outs i).length ((nth d.outs i).flatMap fun n=>[Value.int .i64 n])∧(∀b,rowZ (.slice Ar (nth d.outs i).length cr)=some b→Gi b)∧(∀b,Gi b→G 4 b∧b≠g∧b < W.heap.size)∧
  ∀(W':World) (A':Option Addr) (c':Nat) (l:List Int),Below w.heap.size W W'→(∀b,b < W.heap.size→¬ Gi b→W'.heap[b]?=W.heap[b]?)→ownsZ W' 3 1 (.slice A' l.length c') l.length (l.flatMap fun n=>[Value.int .i64 n])→(∀b,rowZ (.slice A' l.length c')=some b→Gi b∨(W.heap.size≤b∧b < W'.heap.size))→
   WmG w c S E {d with outs:=d.outs.set i l} k (W'.setCell ⟨g,i,none⟩ (.slice A' l.length c')) (addG G 4 W.heap.size W'.heap.size) T A n F∧∀b,E b→(W'.setCell ⟨g,i,none⟩ (.slice A' l.length c')).heap[b]?=W.heap[b]?:=by
 obtain ⟨g,Ar,cr,Gi,e,hG,hg,c0,hf,hown0,hrow0,hGi,hset⟩:=h.dp.dom.out hi
 have hap:=h.dp.apart 4 g hG
 refine ⟨g,Ar,cr,Gi,e,hG,hg,hap.1,c0,hf,hown0,hrow0,fun b hb=>⟨(hGi b hb).1,(hGi b hb).2,h.dp.dom.lt 4 b (hGi b hb).1⟩,fun W' A' c' l hb hkk hown hrow=>?_⟩
 have hD:=hset W' A' c' l hkk hb.size hown hrow
 have hlo:=h.dp.lo
 have kp:∀b,b < W.heap.size→¬ G 4 b→(W'.setCell ⟨g,i,none⟩ (.slice A' l.length c')).heap[b]?=W.heap[b]?:=fun b hb1 hn=>heap_set_far (hkk b hb1 fun hgi=>hn (hGi b hgi).1) (fun e=>hn (e ▸ hG))
 have hz:=(blk h.dp.blk).2.2
 refine h.turn (d':= {d with outs:=d.outs.set i l}) (T':=T) ⟨?_,h.dp.cfg.keep fun b hb1=>kp b (by have hb':b < w.heap.size:=hb1;have:=h.size;omega) (fun hg4=>by have hb':b < w.heap.size:=hb1;have:=(h.dp.apart 4 b hg4).2;omega),hD,fun j b hj=>?_,hlo⟩ ⟨Below.setCell hb (by have:=hap.2;simpa using this) _,fun b hb1 _ hn=>kp b hb1 (hn 4),fun j b hj=>?_⟩
 ·rw [kp _ hz (fun hg4=>(h.dp.apart 4 _ hg4).1 rfl)]
  simpa using h.dp.blk
 ·rcases hj with hj|hj
  ·exact h.dp.apart j b hj
  ·have:=h.size;omega
 ·rcases hj with hj|hj
  ·exact .inl hj
  ·exact .inr ⟨hj.2.1,by simpa using hj.2.2⟩
end
end Go.Proofs.Ytinlmkhlgclbfab
