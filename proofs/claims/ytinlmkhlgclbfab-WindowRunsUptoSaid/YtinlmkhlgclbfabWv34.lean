/- RelA RelB -/
import Derived.Test.YtinlmkhlgclbfabWv23
namespace Go.Proofs.Ytinlmkhlgclbfab
open Go.RowKit
section
set_option maxRecDepth 100000
set_option maxHeartbeats 4000000
structure DEff (B:Nat) (G G':Nat→Nat→Prop) (w w':World):Prop where
 below:Below B w w'
 keep:∀b,b < w.heap.size→(∀i,¬ G i b)→w'.heap[b]?=w.heap[b]?
 grow:∀i b,G' i b→G i b∨(w.heap.size≤b∧b < w'.heap.size)
theorem DEff.refl (B:Nat)(G:Nat→Nat→Prop)(w:World):DEff B G G w w:=⟨Below.refl _ _,fun _ _ _=>rfl,fun _ _ h=> .inl h⟩
theorem DEff.trans {B:Nat}{G G' G'':Nat→Nat→Prop}{w w' w'':World}(h:DEff B G G' w w')(h':DEff B G' G'' w' w''):DEff B G G'' w w'':=
 ⟨h.below.trans h'.below,fun b hb hG=>(h'.keep b (Nat.lt_of_lt_of_le hb h.below.size) (fun i hi=>by
  rcases h.grow i b hi with h1|h1
  ·exact hG i h1
  ·omega)).trans (h.keep b hb hG),fun i b hi=>by
  have:=h.below.size
  have:=h'.below.size
  rcases h'.grow i b hi with h1|h1
  ·rcases h.grow i b h1 with h2|h2
   ·exact .inl h2
   ·exact .inr ⟨h2.1,by omega⟩
  ·exact .inr ⟨by omega,h1.2⟩⟩
theorem DEff.ext {B:Nat}{G:Nat→Nat→Prop}{w w':World}(hB:B≤w.heap.size)(hb:Below w.heap.size w w'):DEff B G G w w':=
 ⟨hb.mono hB,fun b hlt _=>hb.block b hlt,fun _ _ h=> .inl h⟩
structure Dp (g:Nat) (G:Nat→Nat→Prop) (B:Nat) (w:World) (c:TCfg) (S:TCfgS) (d:TDom) (T:TDomS):Prop where
 blk:w.heap[g]?=some (.cells #[.slice T.a0 d.jobs.length T.n0,.slice T.a1 d.released.length T.n1,.int .i64 d.next,.slice T.a2 d.ins.length T.n2,.slice T.a3 d.taken.length T.n3,.slice T.a4 d.outs.length T.n4,.slice T.a5 d.events.length T.n5] 45)
 cfg:TCfg.At (Low B) w c S
 dom:DomO G w d T
 apart:∀i b,G i b→b≠g∧B≤b
 lo:B≤g
theorem Dp.ext {g:Nat}{G:Nat→Nat→Prop}{B:Nat}{w w':World}{c:TCfg}{S:TCfgS}{d:TDom}{T:TDomS}(h:Dp g G B w c S d T)(hb:Below w.heap.size w w'):Dp g G B w' c S d T:=by
 have hz:=(Go.Proofs.Ytinlmkhlgclbfab.blk h.blk).2.2
 exact ⟨(hb.block _ hz).trans h.blk,h.cfg.keep fun b hb'=>hb.block b (by simp only [Low] at hb';have:=h.lo;omega),h.dom.keep (fun i b hb'=>hb.block b (h.dom.lt i b hb')) hb.size,h.apart,h.lo⟩
theorem Dp.drewN {g:Nat}{G:Nat→Nat→Prop}{B:Nat}{w:World}{c:TCfg}{S:TCfgS}{d:TDom}{T:TDomS}(h:Dp g G B w c S d T)(n:Nat):Dp g G B (w.drewN n) c S d T:=h.ext (below_drewN (Below.refl _ _) n)
theorem dom_events {G:Nat→Nat→Prop}{B:Nat}{w:World}{d:TDom}{T:TDomS}(h:DomO G w d T)(hap:∀i b,G i b→B≤b)(hB:B≤w.heap.size)(ev:TEv){A:Option Addr}{cc:Nat}{W w3:World}(hW:Below w.heap.size w W)
  (hown:ownsZ w3 84 4 (.slice A (d.events.length+1) cc) (d.events.length+1) (d.events.flatMap TEv.cells++ev.cells)) (hg:W.grownBy w3 (rowZ (.slice T.a5 d.events.length T.n5)))
  (hat:∀b,rowZ (.slice A (d.events.length+1) cc)=some b→rowZ (.slice T.a5 d.events.length T.n5)=some b∨b=W.heap.size):
  DomO (addG G 5 W.heap.size w3.heap.size) w3 {d with events:=d.events++[ev]} {T with a5:=A,n5:=cc} ∧DEff B G (addG G 5 W.heap.size w3.heap.size) w w3:=by
 have hs3:=hg.size
 have hsW:=hW.size
 have hrow:∀b,rowZ (.slice T.a5 d.events.length T.n5)=some b→G 5 b:=(ozl_flat.1 h.o5).2
 have hold:∀b,b < w.heap.size→(¬ G 5 b)→w3.heap[b]?=w.heap[b]?:=fun b hb hn=>
  (hg.block b (by omega) (fun e=>hn (hrow b e.symm))).trans (hW.block b hb)
 have hD:=(h.keep (w':=W) (fun i b hb=>hW.block b (h.lt i b hb)) hsW).events (w1:=w3) [ev] (by simp) (by simpa using hown) hg hat
 refine ⟨hD,⟨?_,fun b hb hn=>hold b hb (hn 5),fun i b hb=>?_⟩⟩
 ·exact Below.grown (hW.mono hB) hg (by omega) (fun k hk=>hap 5 k (hrow k hk))
 ·rcases hb with hb|hb
  ·exact .inl hb
  ·exact .inr ⟨by omega,hb.2.2⟩
theorem refTell (G:Nat→Nat→Prop)(B:Nat)(w:World)(d:TDom)(T:TDomS)(h:DomO G w d T)(hap:∀i b,G i b→B≤b)(hB:B≤w.heap.size)(at_ kind a b:Int)(hn:d.events.length+1≤4398046511104):
  Calls Try.prog 57 #[.agg #[.slice T.a0 d.jobs.length T.n0,.slice T.a1 d.released.length T.n1,.int .i64 d.next,.slice T.a2 d.ins.length T.n2,.slice T.a3 d.taken.length T.n3,.slice T.a4 d.outs.length T.n4,.slice T.a5 d.events.length T.n5],.int .i64 at_,.int .i64 kind,.int .i64 a,.int .i64 b] w fun e w'=>∃A n G',e= .returned (.agg #[.slice T.a0 d.jobs.length T.n0,.slice T.a1 d.released.length T.n1,.int .i64 d.next,.slice T.a2 d.ins.length T.n2,.slice T.a3 d.taken.length T.n3,.slice T.a4 d.outs.length T.n4,.slice A (d.events.length+1) n])∧
   DomO G' w' {d with events:=d.events++[⟨at_,kind,a,b⟩]} {T with a5:=A,n5:=n} ∧DEff B G G' w w':=by
 have HE:=fun {A:Option Addr} {cc:Nat} {W w3:World} =>zH (dom_events h hap hB ⟨at_,kind,a,b⟩ (A:=A) (cc:=cc) (W:=W) (w3:=w3))
 have hown:=(ozl_flat.1 h.o5).1
 have hrow:=(ozl_flat.1 h.o5).2
 have hlt:=zH h.lt
 have hown:ownsZ w 84 4 (.slice T.a5 d.events.length T.n5) d.events.length (d.events.flatMap TEv.cells):=hown
 have h1e:∀u∈[Value.int .i64 at_,.int .i64 kind,.int .i64 a,.int .i64 b],u.oneCell'=true:=by intro u hu;exact one_ev [⟨at_,kind,a,b⟩] u (by simpa [TEv.cells] using hu)
 replace hown:=zH hown
 clear h
 go_enter Try.func57,Try.ntmps57
 go_wp2_with (at_builtin;refine wpList_appZ rfl (.tmp 12) (.tmp 18) _ rfl tyEv (.slice T.a5 d.events.length T.n5) d.events.length (d.events.flatMap TEv.cells) (by rfl) (ownZ_keep hown.out (fun b hb=>Below.block (B:=w.heap.size) byB _ (ownZ_lt hown.out b hb))) (some ⟨w.heap.size+2,0,none⟩) 1 1 [.int .i64 at_,.int .i64 kind,.int .i64 a,.int .i64 b] (by rfl) byR h1e (by unfold maxLen;omega) (by omega) (fun A3 c3 w3 own3 gr3 at3=>?_);have z3:w.heap.size+3≤w3.heap.size:=(by have:=gr3.size;simpa using this);have hbA:w3.heap[w.heap.size]?=some (.cells #[.slice T.a0 d.jobs.length T.n0,.slice T.a1 d.released.length T.n1,.int .i64 d.next,.slice T.a2 d.ins.length T.n2,.slice T.a3 d.taken.length T.n3,.slice T.a4 d.outs.length T.n4,.slice T.a5 d.events.length T.n5] 45):=(gr3.block _ byS (fun e=>absurd (hlt.out 5 _ (hrow _ e.symm)) (by omega))).trans (by exact byH);have hbB:w3.heap[w.heap.size+1]?=some (.cells #[.slice none 0 0,.slice none 0 0,.int .i64 0,.slice none 0 0,.slice none 0 0,.slice none 0 0,.slice none 0 0] 45):=(gr3.block _ byS (fun e=>absurd (hlt.out 5 _ (hrow _ e.symm)) (by omega))).trans (by exact byH);obtain ⟨cA,fA,zA⟩:=blk hbA;obtain ⟨cB,fB,zB⟩:=blk hbB)
 have hh:=(HE (W:=((w.alloc (.cells #[.slice T.a0 d.jobs.length T.n0,.slice T.a1 d.released.length T.n1,.int .i64 d.next,.slice T.a2 d.ins.length T.n2,.slice T.a3 d.taken.length T.n3,.slice T.a4 d.outs.length T.n4,.slice T.a5 d.events.length T.n5] 45)).alloc (.cells #[.slice none 0 0,.slice none 0 0,.int .i64 0,.slice none 0 0,.slice none 0 0,.slice none 0 0,.slice none 0 0] 45)).alloc (.cells #[.int .i64 at_,.int .i64 kind,.int .i64 a,.int .i64 b] 84))).out byB (by simpa [TEv.cells] using own3) gr3 at3
 obtain ⟨hO,hE⟩:=hh
 have hbB2:(w3.setCell ⟨w.heap.size,6,none⟩ (.slice A3 (d.events.length+1) c3)).heap[w.heap.size+1]?=some (.cells #[.slice none 0 0,.slice none 0 0,.int .i64 0,.slice none 0 0,.slice none 0 0,.slice none 0 0,.slice none 0 0] 45):=heap_set_far hbB (by simp)
 obtain ⟨cR,fR,zR⟩:=blk (dom_set (u0:= .slice T.a0 d.jobs.length T.n0) (u1:= .slice T.a1 d.released.length T.n1) (u2:= .int .i64 d.next) (u3:= .slice T.a2 d.ins.length T.n2) (u4:= .slice T.a3 d.taken.length T.n3) (u5:= .slice T.a4 d.outs.length T.n4) (u6:= .slice A3 (d.events.length+1) c3) hbB2)
 have hne:∀i b,addG G 5 (w.heap.size+3) w3.heap.size i b→b≠w.heap.size∧b≠w.heap.size+1:=fun i b hb=>by
  rcases hb with hb|hb
  ·have:=hlt.out i b hb;omega
  ·omega
 simp only [World.size_alloc] at hO hE
 refine bodyPost_ret (v:= .agg #[.slice T.a0 d.jobs.length T.n0,.slice T.a1 d.released.length T.n1,.int .i64 d.next,.slice T.a2 d.ins.length T.n2,.slice T.a3 d.taken.length T.n3,.slice T.a4 d.outs.length T.n4,.slice A3 (d.events.length+1) c3]) (by simp [results,Try.results57,go_sem, *]) rfl ?_
 refine ⟨A3,c3,_,rfl,hO.keep (fun i b hb=>(dom_far (hne i b hb).2).trans (heap_set_far rfl (hne i b hb).1)) (by simp),⟨dom_below (hE.below.setCell (by simp;omega) _) (by omega),fun b hb hn=>(dom_far (by omega)).trans ((heap_set_far rfl (by simp;omega)).trans (hE.keep b hb hn)),fun i b hb=>by simpa using hE.grow i b hb⟩⟩
theorem dp_jobs (g:Nat)(G:Nat→Nat→Prop)(B:Nat)(w:World)(c:TCfg)(S:TCfgS)(d:TDom)(T:TDomS)(h:Dp g G B w c S d T)(j:TJob){A:Option Addr}{cc:Nat}{w3:World}{o:Obj}
    (hown:ownsZ w3 110 6 (.slice A (d.jobs.length+1) cc) (d.jobs.length+1) (d.jobs.flatMap TJob.cells++j.cells)) (hg:(w.alloc o).grownBy w3 (rowZ (.slice T.a0 d.jobs.length T.n0)))
    (hat:∀b,rowZ (.slice A (d.jobs.length+1) cc)=some b→rowZ (.slice T.a0 d.jobs.length T.n0)=some b∨b=(w.alloc o).heap.size):
    w3.heap[g]?=some (.cells #[.slice T.a0 d.jobs.length T.n0,.slice T.a1 d.released.length T.n1,.int .i64 d.next,.slice T.a2 d.ins.length T.n2,.slice T.a3 d.taken.length T.n3,.slice T.a4 d.outs.length T.n4,.slice T.a5 d.events.length T.n5] 45)∧Dp g (addG G 0 w.heap.size w3.heap.size) B (w3.setCell ⟨g,0,none⟩ (.slice A (d.jobs.length+1) cc)) c S {d with jobs:=d.jobs++[j]} {T with a0:=A,n0:=cc} ∧
    KEff g B G (addG G 0 w.heap.size w3.heap.size) w (w3.setCell ⟨g,0,none⟩ (.slice A (d.jobs.length+1) cc)):=by
  have hz:=(blk h.blk).2.2
  have hs3:=hg.size
  simp at hs3
  have hrow:∀b,rowZ (.slice T.a0 d.jobs.length T.n0)=some b→G 0 b:=(ozl_flat.1 h.dom.o0).2
  have hold:∀b,b < w.heap.size→(¬ G 0 b)→w3.heap[b]?=w.heap[b]?:=fun b hb hn=>
    (hg.block b (by simp;omega) (fun e=>hn (hrow b e.symm))).trans (heap_alloc_old _ _ hb)
  have hD:=(h.dom.keep (w':=w.alloc o) (fun i b hb=>heap_alloc_old _ _ (h.dom.lt i b hb)) (by simp)).jobs (w1:=w3) [j] (by simp) (by simpa using hown) hg hat
  have hD2:DomO (addG G 0 w.heap.size w3.heap.size) w3 {d with jobs:=d.jobs++[j]} {T with a0:=A,n0:=cc} :=
    hD.more (fun i b hb => by rcases hb with hb | hb
                              · exact .inl hb
                              · exact .inr ⟨hb.1,by have:=hb.2.1;simp at this;omega,hb.2.2⟩) (addG_dis h.dom.dis h.dom.lt) (fun i b hb=>by
      rcases hb with hb|hb
      · have:=h.dom.lt i b hb;omega
      · exact hb.2.2)
  have hap:∀i,¬ addG G 0 w.heap.size w3.heap.size i g:=fun i hb=>by
    rcases hb with hb|hb
    · exact (h.apart i g hb).1 rfl
    · omega
  have hk:=(hold g hz (fun hb=>(h.apart 0 g hb).1 rfl)).trans h.blk
  refine ⟨hk,⟨?_,?_,hD2.setCell hap,fun i b hb=>?_,h.lo⟩,⟨?_,fun b hb hne hn=>?_,fun i b hb=>?_⟩⟩
  · refine (heap_set_same hk).trans ?_
    simp [Array.setIfInBounds]
  · refine h.cfg.keep fun b hb=>?_
    have hb:b < B:=hb
    have:=h.lo
    exact heap_set_far (hold b (by omega) (fun e=>by have:=(h.apart 0 b e).2;omega)) (by simp;omega)
  · rcases hb with hb|hb
    · exact h.apart i b hb
    · have:=h.lo;omega
  · have:=h.lo
    refine Below.setCell (Below.grown (w:=w.alloc o) (Below.alloc (Below.refl _ _) (by omega) _) hg (by simp;omega) (fun k hk=>(h.apart 0 k (hrow k hk)).2)) (by simp;omega) _
  · exact heap_set_far (hold b hb (hn 0)) (by simp;exact hne)
  · rcases hb with hb|hb
    · exact .inl hb
    · exact .inr ⟨hb.2.1,by simpa using hb.2.2⟩
theorem dp_cell {g0:Nat}{G:Nat→Nat→Prop}{B:Nat}{w:World}{c:TCfg}{S:TCfgS}{d d':TDom}{T:TDomS}(h:Dp g0 G B w c S d T){k g o:Nat}{u:Value}(hG:G k g)
  (hd:DomO G (w.setCell ⟨g,o,none⟩ u) d' T) (e1:d'.jobs.length=d.jobs.length) (e2:d'.released.length=d.released.length) (e3:d'.next=d.next) (e4:d'.ins.length=d.ins.length) (e5:d'.taken.length=d.taken.length) (e6:d'.outs.length=d.outs.length) (e7:d'.events.length=d.events.length):
  Dp g0 G B (w.setCell ⟨g,o,none⟩ u) c S d' T∧KEff g0 B G G w (w.setCell ⟨g,o,none⟩ u):=by
 have hap:=h.apart k g hG
 have hlo:=h.lo
 refine ⟨⟨?_,h.cfg.keep fun b hb=>?_,hd,h.apart,h.lo⟩,⟨Below.setCell (Below.refl _ _) hap.2 _,fun b hb hne hn=>heap_set_far rfl (fun e=>hn k (e ▸ hG)),fun i b hb=> .inl hb⟩⟩
 ·rw [e1,e2,e3,e4,e5,e6,e7]
  exact heap_set_far h.blk (Ne.symm hap.1)
 ·have hb:b < B:=hb
  exact heap_set_far rfl (by show b≠g;omega)
theorem dp_rel {g0:Nat}{G:Nat→Nat→Prop}{B:Nat}{w:World}{c:TCfg}{S:TCfgS}{d:TDom}{T:TDomS}(h:Dp g0 G B w c S d T){i:Nat}(hi:i < d.released.length):
  ∃g,T.a1=some ⟨g,0,none⟩∧G 1 g∧g < w.heap.size∧w.cell? ⟨g,i,none⟩=some (.int .i64 (nth d.released i))∧(∀o,w.frozen? ⟨g,o,none⟩=false)∧
   ∀x:Int,Dp g0 G B (w.setCell ⟨g,i,none⟩ (.int .i64 x)) c S {d with released:=d.released.set i x} T∧KEff g0 B G G w (w.setCell ⟨g,i,none⟩ (.int .i64 x)):=by
 obtain ⟨g,e,hG,hg,hc,hf,hs⟩:=h.dom.released hi
 exact ⟨g,e,hG,hg,hc,hf,fun x=>dp_cell h hG (hs x) rfl (by simp) rfl rfl rfl rfl rfl⟩
theorem dp_miss {g0:Nat}{G:Nat→Nat→Prop}{B:Nat}{w:World}{c:TCfg}{S:TCfgS}{d:TDom}{T:TDomS}(h:Dp g0 G B w c S d T){i:Nat}(hi:i < d.jobs.length):
  ∃g,T.a0=some ⟨g,0,none⟩∧G 0 g∧g < w.heap.size∧(∀j u,(nth d.jobs i).cells[j]?=some u→w.cell? ⟨g,i*6+j,none⟩=some u)∧(∀o,w.frozen? ⟨g,o,none⟩=false)∧
   Dp g0 G B (w.setCell ⟨g,i*6+5,none⟩ (.bool true)) c S {d with jobs:=d.jobs.set i {nth d.jobs i with missed:=true} } T∧KEff g0 B G G w (w.setCell ⟨g,i*6+5,none⟩ (.bool true)):=by
 obtain ⟨g,e,hG,hg,hc,hf,hs⟩:=h.dom.job hi
 exact ⟨g,e,hG,hg,hc,hf,dp_cell h hG (hs 5 (.bool true) {nth d.jobs i with missed:=true} (by omega) rfl) (by simp) rfl rfl rfl rfl rfl rfl⟩
theorem dp_put {g:Nat}{G G':Nat→Nat→Prop}{B:Nat}{w w':World}{c:TCfg}{S:TCfgS}{d d':TDom}{T T':TDomS}(h:Dp g G B w c S d T)(hO:DomO G' w' d' T')(hE:DEff B G G' w w'):
  w'.heap[g]?=some (.cells #[.slice T.a0 d.jobs.length T.n0,.slice T.a1 d.released.length T.n1,.int .i64 d.next,.slice T.a2 d.ins.length T.n2,.slice T.a3 d.taken.length T.n3,.slice T.a4 d.outs.length T.n4,.slice T.a5 d.events.length T.n5] 45)∧
  Dp g G' B (((((((w'.setCell ⟨g,0,none⟩ (.slice T'.a0 d'.jobs.length T'.n0)).setCell ⟨g,1,none⟩ (.slice T'.a1 d'.released.length T'.n1)).setCell ⟨g,2,none⟩ (.int .i64 d'.next)).setCell ⟨g,3,none⟩ (.slice T'.a2 d'.ins.length T'.n2)).setCell ⟨g,4,none⟩ (.slice T'.a3 d'.taken.length T'.n3)).setCell ⟨g,5,none⟩ (.slice T'.a4 d'.outs.length T'.n4)).setCell ⟨g,6,none⟩ (.slice T'.a5 d'.events.length T'.n5)) c S d' T'∧
  KEff g B G G' w (((((((w'.setCell ⟨g,0,none⟩ (.slice T'.a0 d'.jobs.length T'.n0)).setCell ⟨g,1,none⟩ (.slice T'.a1 d'.released.length T'.n1)).setCell ⟨g,2,none⟩ (.int .i64 d'.next)).setCell ⟨g,3,none⟩ (.slice T'.a2 d'.ins.length T'.n2)).setCell ⟨g,4,none⟩ (.slice T'.a3 d'.taken.length T'.n3)).setCell ⟨g,5,none⟩ (.slice T'.a4 d'.outs.length T'.n4)).setCell ⟨g,6,none⟩ (.slice T'.a5 d'.events.length T'.n5)):=by
 have hz:=(blk h.blk).2.2
 have hlo:=h.lo
 have hk:w'.heap[g]?=some (.cells #[.slice T.a0 d.jobs.length T.n0,.slice T.a1 d.released.length T.n1,.int .i64 d.next,.slice T.a2 d.ins.length T.n2,.slice T.a3 d.taken.length T.n3,.slice T.a4 d.outs.length T.n4,.slice T.a5 d.events.length T.n5] 45):=(hE.keep g hz (fun i hb=>(h.apart i g hb).1 rfl)).trans h.blk
 have hne:∀i b,G' i b→b≠g∧B≤b:=fun i b hb=>by
  rcases hE.grow i b hb with h1|h1
  ·exact h.apart i b h1
  ·omega
 refine ⟨hk,⟨dom_set hk,h.cfg.keep fun b hb=>?_,hO.keep (fun i b hb=>dom_far (hne i b hb).1) (by simp),hne,hlo⟩,⟨dom_below hE.below hlo,fun b hb h1 h2=>(dom_far h1).trans (hE.keep b hb h2),fun i b hb=>by simpa using hE.grow i b hb⟩⟩
 have hb:b < B:=hb
 exact (dom_far (by omega)).trans (hE.keep b (by omega) (fun i hi=>by have:=(h.apart i b hi).2;omega))
theorem relM_dp {g:Nat}{G:Nat→Nat→Prop}{B:Nat}{W:World}{c:TCfg}{S:TCfgS}{d:TDom}{T:TDomS}(h:Dp g G B W c S d T){a1:Option Addr}(ha:T.a1=a1){x:Nat}(hx:x < d.released.length):relM a1 x W=(100000 - nth d.released x).toNat:=by
 obtain ⟨g,eg,_,_,hcr,_⟩:=dp_rel h hx
 rw [← ha,eg]
 simp [relM,hcr,intOf]
structure Rm (w:World) (G:Nat→Nat→Prop) (B:Nat) (c:TCfg) (S:TCfgS) (dom:Int) (a1:Option Addr) (lim:Nat) (d:TDom) (W:World):Prop where
 all:∃G' T,Dp (w.heap.size+1) G' B W c S d T∧KEff (w.heap.size+1) B G G' w W∧(∀i b,G' i b→G i b∨w.heap.size+3≤b)∧(∀x,a1=some x→T.a1=a1)
 box0:W.heap[w.heap.size]?=some (.cells #[.int .i64 c.sets,.int .i64 c.ways,.int .i64 c.doms,.int .i64 c.pad,.int .i64 c.quantum,.slice S.a0 c.slots.length S.n0,.slice S.a1 c.owners.length S.n1,.slice S.a2 c.chans.length S.n2,.slice S.a3 c.tasks.length S.n3] 27)
 box2:W.heap[w.heap.size+2]?=some (.cells #[.slice none 0 0,.slice none 0 0,.int .i64 0,.slice none 0 0,.slice none 0 0,.slice none 0 0,.slice none 0 0] 45)
 size:w.heap.size+3≤W.heap.size
 hB:B≤w.heap.size
 lt:∀i b,G i b→b < w.heap.size
 ok:DomOkW c dom d
 ev:d.events.length≤lim
theorem Rm.turn {w:World}{G G' G'':Nat→Nat→Prop}{B:Nat}{c:TCfg}{S:TCfgS}{dom:Int}{a1:Option Addr}{lim lim':Nat}{d d':TDom}{W W':World}{T':TDomS}(h:Rm w G B c S dom a1 lim d W)(hE0:KEff (w.heap.size+1) B G G' w W)(hG0:∀i b,G' i b→G i b∨w.heap.size+3≤b)
  (hK:Dp (w.heap.size+1) G'' B W' c S d' T') (hE:KEff (w.heap.size+1) B G' G'' W W') (ha:∀x,a1=some x→T'.a1=a1) (hok:DomOkW c dom d') (hev:d'.events.length≤lim'):Rm w G B c S dom a1 lim' d' W':=by
 have hs:=h.size
 have hz:=hE.below.size
 have hkeep:∀b,w.heap.size≤b→b < w.heap.size+3→b≠w.heap.size+1→W'.heap[b]?=W.heap[b]?:=fun b h1 h2 h3=>hE.keep b (by omega) h3 fun i hi=>by
  rcases hG0 i b hi with h3|h3
  ·have:=h.lt i b h3;omega
  ·omega
 refine ⟨⟨G'',T',hK,hE0.trans hE,fun i b hb=>?_,ha⟩,(hkeep _ (by omega) (by omega) (by omega)).trans h.box0,(hkeep _ (by omega) (by omega) (by omega)).trans h.box2,by omega,h.hB,h.lt,hok,hev⟩
 rcases hE.grow i b hb with h1|h1
 ·exact hG0 i b h1
 ·omega
theorem Rm.weak {w:World}{G:Nat→Nat→Prop}{B:Nat}{c:TCfg}{S:TCfgS}{dom:Int}{a1:Option Addr}{lim lim':Nat}{d:TDom}{W:World}(h:Rm w G B c S dom a1 lim d W)(hl:lim≤lim'):Rm w G B c S dom none lim' d W:=by
 obtain ⟨⟨G',T,h1,h2,h3,_⟩,h4,h5,h6,h7,h8,h9,h10⟩:=h
 exact ⟨⟨G',T,h1,h2,h3,fun _ h=>by cases h⟩,h4,h5,h6,h7,h8,h9,by omega⟩
structure InW (w:World) (G:Nat→Nat→Prop) (B:Nat) (c:TCfg) (S:TCfgS) (dom now:Int) (a1:Option Addr) (lim x:Nat) (tgt:TDom) (wr:World):Prop where
 all:∃d n,relFuel x d≤n∧relLoop c x now n d=tgt∧d.events.length+(20 - d.jobs.length)≤lim∧Rm w G B c S dom a1 lim d wr
theorem rel_on {w wr W':World}{G G1 G3:Nat→Nat→Prop}{B:Nat}{c:TCfg}{S:TCfgS}{dom now:Int}{a1:Option Addr}{lim x n1:Nat}{tgt d1:TDom}{T1 T3:TDomS}(hc:CfgOk c)(hnow:now≤100000)(hx:x < c.tasks.length)(hxm:(nth c.tasks x).dom=dom)
  (hn1:relFuel x d1≤n1) (htgt:relLoop c x now n1 d1=tgt) (hev:d1.events.length+(20 - d1.jobs.length)≤lim) (hC1:Rm w G B c S dom a1 lim d1 wr) (hD1:Dp (w.heap.size+1) G1 B wr c S d1 T1)
  (hE1:KEff (w.heap.size+1) B G G1 w wr) (hG1:∀i b,G1 i b→G i b∨w.heap.size+3≤b) (hcan:relCan c x now d1=true) (hK3:Dp (w.heap.size+1) G3 B W' c S (relStep c x d1) T3) (hE3:KEff (w.heap.size+1) B G1 G3 wr W') (ha1:T1.a1=a1) (ha:T3.a1=a1):
  InW w G B c S dom now a1 lim x tgt W'∧relM a1 x W' < relM a1 x wr:=by
 have hok:=hC1.ok
 have hxr:x < d1.released.length:=by rw [hok.lrel];exact hx
 have hok':=relStep_ok hc hnow hx hxm hok hcan
 have hxr':x < (relStep c x d1).released.length:=by rw [hok'.lrel];exact hx
 have hrl:=hok.rel x hxr
 have hcan':=relCan_iff.1 hcan
 obtain ⟨k,rfl,hk⟩:=relLoop_go hn1 hcan
 have hev':(relStep c x d1).events.length+(20 - (relStep c x d1).jobs.length)≤lim:=by unfold relStep;split<;>simp<;>omega
 have hC':Rm w G B c S dom a1 lim (relStep c x d1) W':=hC1.turn hE1 hG1 hK3 hE3 (fun _ _=>ha) hok' (by omega)
 have hrel':nth (relStep c x d1).released x=nth d1.released x+1:=by rw [relStep_released,nth_set_self hxr]
 refine ⟨⟨⟨relStep c x d1,k,?_,hk ▸ htgt,hev',hC'⟩⟩,?_⟩
 ·unfold relFuel at hn1⊢
  rw [hrel'];omega
 ·rw [relM_dp hK3 ha hxr',relM_dp hD1 ha1 hxr,hrel']
  omega
end
end Go.Proofs.Ytinlmkhlgclbfab
