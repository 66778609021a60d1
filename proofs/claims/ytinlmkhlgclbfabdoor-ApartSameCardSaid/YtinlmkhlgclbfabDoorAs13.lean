/- DomV to KeepD -/
import Derived.Test.YtinlmkhlgclbfabDoorAs12
import Derived.StillTailTactics
import Derived.Deep.RegionLaw
namespace Go.Proofs.YtinlmkhlgclbfabDoor
open Go.RowKit
section
set_option maxRecDepth 100000
set_option maxHeartbeats 4000000
structure Ext (W W':World):Prop where
 at_:∀b,b < W.heap.size→W'.heap[b]?=W.heap[b]?
 size:W.heap.size≤W'.heap.size
theorem Ext.alloc (W:World)(o:Obj):Ext W (W.alloc o):=⟨fun b hb=>heap_alloc_old _ _ hb,by simp⟩
theorem Ext.grown {W W':World}(h:W.grownBy W' none):Ext W W':=⟨fun b hb=>h.block b hb (fun e=>by cases e),h.size⟩
theorem Ext.below {W W':World}(h:Below W.heap.size W W'):Ext W W':=⟨fun b hb=>h.block b hb,h.size⟩
theorem Ext.blk {W W':World}(h:Ext W W'){b:Nat}{o:Obj}(hb:W.heap[b]?=some o):W'.heap[b]?=some o:=(h.at_ b (Array.getElem?_eq_some_iff.1 hb).1).trans hb
theorem ownsZ_type {w:World}{E:TypeId}{size:Nat}{v:Value}{n:Nat}{xs:List Value}(h:ownsZ w E size v n xs){b:Nat}(hb:rowZ v=some b):∃cur,w.heap[b]?=some (.cells cur E (0,0)):=by
 rcases h with ⟨_,⟨rfl,_⟩|⟨g,cap,cur,rfl,_,hh,_⟩⟩|⟨_,_,a,rfl⟩
 ·cases hb
 ·have:=rowZ_own hb
  simp [Value.ownBlock] at this
  subst this
  exact ⟨cur,hh⟩
 ·cases hb
def RzN (s0:Nat) (W:World) (E:TypeId) (size:Nat) (v:Value) (n:Nat) (xs:List Value):Prop:=∃A c,v= .slice A n c∧ownsZ W E size v n xs∧∀b,rowZ v=some b→s0≤b∧b < W.heap.size
theorem RzN.lt {s0:Nat}{W:World}{E:TypeId}{size:Nat}{v:Value}{n:Nat}{xs:List Value}(h:RzN s0 W E size v n xs):∀b,rowZ v=some b→b < W.heap.size:=by
 obtain ⟨A,c,_,_,h⟩:=h
 exact fun b hb=>(h b hb).2
theorem RzN.lo {s0:Nat}{W:World}{E:TypeId}{size:Nat}{v:Value}{n:Nat}{xs:List Value}(h:RzN s0 W E size v n xs):∀b,rowZ v=some b→s0≤b:=by
 obtain ⟨A,c,_,_,h⟩:=h
 exact fun b hb=>(h b hb).1
theorem RzN.ext {s0:Nat}{W W':World}{E:TypeId}{size:Nat}{v:Value}{n:Nat}{xs:List Value}(h:RzN s0 W E size v n xs)(he:Ext W W'):RzN s0 W' E size v n xs:=by
 obtain ⟨A,c,h1,h2,h3⟩:=h
 exact ⟨A,c,h1,ownZ_keep h2 fun b hb=>he.at_ b (h3 b hb).2,fun b hb=>⟨(h3 b hb).1,Nat.lt_of_lt_of_le (h3 b hb).2 he.size⟩⟩
theorem RzN.keep {s0:Nat}{W W':World}{E:TypeId}{size:Nat}{v:Value}{n:Nat}{xs:List Value}(h:RzN s0 W E size v n xs)(hk:∀b,rowZ v=some b→W'.heap[b]?=W.heap[b]?)(hs:W.heap.size≤W'.heap.size):RzN s0 W' E size v n xs:=by
 obtain ⟨A,c,h1,h2,h3⟩:=h
 exact ⟨A,c,h1,ownZ_keep h2 hk,fun b hb=>⟨(h3 b hb).1,Nat.lt_of_lt_of_le (h3 b hb).2 hs⟩⟩
theorem RzN.dom {s0 g:Nat}{W:World}{E Ed:TypeId}{size:Nat}{v:Value}{n:Nat}{xs:List Value}{cs:Array Value}{u0 u1 u2 u3 u4 u5 u6:Value}(h:RzN s0 W E size v n xs)(hg:W.heap[g]?=some (.cells cs Ed (0,0)))(hE:E≠Ed):
  RzN s0 (((((((W.setCell ⟨g,0,none⟩ u0).setCell ⟨g,1,none⟩ u1).setCell ⟨g,2,none⟩ u2).setCell ⟨g,3,none⟩ u3).setCell ⟨g,4,none⟩ u4).setCell ⟨g,5,none⟩ u5).setCell ⟨g,6,none⟩ u6) E size v n xs:=by
 have h':=h
 obtain ⟨A,c,h1,h2,h3⟩:=h
 refine h'.keep (fun b hb=>dom_far ?_) (by simp)
 rintro rfl
 obtain ⟨cur,hc⟩:=ownsZ_type h2 hb
 rw [hg] at hc
 injection hc with hc;injection hc with _ hc
 exact hE hc.symm
structure Kp (gk:Nat) (G:Nat→Nat→Prop) (B:Nat) (w:World) (c:TCfg) (S:TCfgS) (m:Int) (d:TDom) (T:TDomS):Prop where
 blk:w.heap[gk]?=some (.cells #[.int .i64 c.sets,.int .i64 c.ways,.int .i64 c.doms,.int .i64 c.pad,.int .i64 c.quantum,.slice S.a0 c.slots.length S.n0,.slice S.a1 c.owners.length S.n1,.slice S.a2 c.chans.length S.n2,.slice S.a3 c.tasks.length S.n3,.int .i64 m,.slice T.a0 d.jobs.length T.n0,.slice T.a1 d.released.length T.n1,.int .i64 d.next,.slice T.a2 d.ins.length T.n2,.slice T.a3 d.taken.length T.n3,.slice T.a4 d.outs.length T.n4,.slice T.a5 d.events.length T.n5] 136)
 cfg:TCfg.At (Low B) w c S
 dom:DomO G w d T
 apart:∀i b,G i b→b≠gk∧B≤b
 lo:B≤gk
structure KEff (gk B:Nat) (G G':Nat→Nat→Prop) (w w':World):Prop where
 below:Below B w w'
 keep:∀b,b < w.heap.size→b≠gk→(∀i,¬ G i b)→w'.heap[b]?=w.heap[b]?
 grow:∀i b,G' i b→G i b∨(w.heap.size≤b∧b < w'.heap.size)
theorem KEff.refl (gk B:Nat)(G:Nat→Nat→Prop)(w:World):KEff gk B G G w w:=⟨Below.refl _ _,fun _ _ _ _=>rfl,fun _ _ h=> .inl h⟩
theorem KEff.trans {gk B:Nat}{G G' G'':Nat→Nat→Prop}{w w' w'':World}(h:KEff gk B G G' w w')(h':KEff gk B G' G'' w' w''):KEff gk B G G'' w w'':=
 ⟨h.below.trans h'.below,fun b hb hne hG=>(h'.keep b (Nat.lt_of_lt_of_le hb h.below.size) hne (fun i hi=>by
  rcases h.grow i b hi with h1|h1
  ·exact hG i h1
  ·omega)).trans (h.keep b hb hne hG),fun i b hi=>by
  have:=h.below.size
  have:=h'.below.size
  rcases h'.grow i b hi with h1|h1
  ·rcases h.grow i b h1 with h2|h2
   ·exact .inl h2
   ·exact .inr ⟨h2.1,by omega⟩
  ·exact .inr ⟨by omega,h1.2⟩⟩
theorem Kp.drewN {gk:Nat}{G:Nat→Nat→Prop}{B:Nat}{w:World}{c:TCfg}{S:TCfgS}{m:Int}{d:TDom}{T:TDomS}(h:Kp gk G B w c S m d T)(n:Nat):Kp gk G B (w.drewN n) c S m d T:=
 ⟨h.blk,h.cfg.keep fun _ _=>rfl,h.dom.keep (fun _ _ _=>rfl) (Nat.le_refl _),h.apart,h.lo⟩
theorem Kp.ext {gk:Nat}{G:Nat→Nat→Prop}{B:Nat}{w w':World}{c:TCfg}{S:TCfgS}{m:Int}{d:TDom}{T:TDomS}(h:Kp gk G B w c S m d T)(hb:Below w.heap.size w w'):Kp gk G B w' c S m d T:=by
 have hz:=(Go.Proofs.YtinlmkhlgclbfabDoor.blk h.blk).2.2
 exact ⟨(hb.block _ hz).trans h.blk,h.cfg.keep fun b hb'=>hb.block b (by simp only [Low] at hb';have:=h.lo;omega),h.dom.keep (fun i b hb'=>hb.block b (h.dom.lt i b hb')) hb.size,h.apart,h.lo⟩
theorem KEff.ext {gk B:Nat}{G:Nat→Nat→Prop}{w w':World}(hB:B≤w.heap.size)(hb:Below w.heap.size w w'):KEff gk B G G w w':=
 ⟨hb.mono hB,fun b hlt _ _=>hb.block b hlt,fun _ _ h=> .inl h⟩
theorem keeperNext (gk:Nat)(G:Nat→Nat→Prop)(B:Nat)(w:World)(c:TCfg)(S:TCfgS)(m:Int)(d:TDom)(T:TDomS)(h:Kp gk G B w c S m d T)(i:Nat)(hi:i < c.tasks.length)(hl:i < d.released.length)
  (hp:0≤(nth c.tasks i).period∧(nth c.tasks i).period≤5000) (hr:0≤nth d.released i∧nth d.released i≤100000) (h6:c.tasks.length≤6):
  Calls Tryd.prog 81 #[.pointer (some ⟨gk,0,none⟩),.int .i64 i] w fun e w'=>e= .returned (.int .i64 (relAt c i d))∧∃n,w'=w.drewN n:=by
 obtain ⟨hb,hcfg,hdom,_,hlo⟩:=h
 have hz:=(blk hb).2.2
 obtain ⟨b,o,e1,hI,hc0,hc1,hc2,hc3⟩:=hcfg.s3.at_task hi
 obtain ⟨g,e2,hG,hg,hcr,hfr,_⟩:=hdom.released hl
 rw [e1,e2] at hb
 obtain ⟨cb,fb,zb⟩:=blk hb
 have hI:b < B:=hI
 have hbl:b < w.heap.size:=by omega
 have hi0:(0:Int)≤i:=by omega
 have hi1:(i:Int) < c.tasks.length:=by omega
 have hi2:(i:Int) < d.released.length:=by omega
 have hmul:IntKind.i64.wrap ((nth c.tasks i).period*nth d.released i)=relAt c i d:=by
  unfold relAt
  have h1:0≤(nth c.tasks i).period*nth d.released i:=Int.mul_nonneg hp.1 hr.1
  have h2:(nth c.tasks i).period*nth d.released i≤5000*100000:=Int.mul_le_mul hp.2 hr.2 hr.1 (by omega)
  exact IntWalk.i64_in _ (by omega)
 have hmul2:(nth c.tasks i).period*nth d.released i=relAt c i d:=rfl
 have hwr:IntKind.i64.wrap (relAt c i d)=relAt c i d:=by rw [← hmul2];exact hmul
 generalize relAt c i d=R at*
 generalize nth c.tasks i=tk at*
 generalize nth d.released i=rl at*
 clear hp hr hb hdom hcfg e1 e2
 go_enter Tryd.func81,Tryd.ntmps81
 go_wp2_with fail
 go_quiet (fail)
 go_wp2_with fail
 go_ret
 exact ⟨rfl,_,rfl⟩
theorem keeperLate (gk:Nat)(G:Nat→Nat→Prop)(B:Nat)(w:World)(c:TCfg)(S:TCfgS)(m:Int)(d:TDom)(T:TDomS)(h:Kp gk G B w c S m d T)(j:TJob)(hj:0≤j.task∧j.task < c.tasks.length)
  (hp:0≤(taskOf c j.task).dead∧(taskOf c j.task).dead≤5000) (hr:0≤j.released∧j.released≤100000) (h6:c.tasks.length≤6):
  Calls Tryd.prog 83 #[.pointer (some ⟨gk,0,none⟩),.agg #[.int .i64 j.task,.int .i64 j.number,.int .i64 j.released,.int .i64 j.used,.bool j.ran,.bool j.missed]] w fun e w'=>e= .returned (.int .i64 (lateOf c j))∧Below w.heap.size w w':=by
 obtain ⟨hb,hcfg,hdom,_,hlo⟩:=h
 have hz:=(blk hb).2.2
 obtain ⟨t,n,rl,us,ra,mi⟩:=j
 dsimp only at hj hp hr⊢
 obtain ⟨i,rfl⟩:=Int.eq_ofNat_of_zero_le hj.1
 have hi:i < c.tasks.length:=by omega
 obtain ⟨b,o,e1,hI,hc0,hc1,hc2,hc3⟩:=hcfg.s3.at_task hi
 rw [e1] at hb
 obtain ⟨cb,fb,zb⟩:=blk hb
 have hI:b < B:=hI
 have hbl:b < w.heap.size:=by omega
 have hi0:(0:Int)≤i:=by omega
 have hi1:(i:Int) < c.tasks.length:=by omega
 have hlt:lateOf c ⟨i,n,rl,us,ra,mi⟩=rl+(nth c.tasks i).dead:=by simp [lateOf,taskOf]
 rw [hlt]
 rw [show taskOf c (i:Int)=nth c.tasks i by simp [taskOf]] at hp
 generalize nth c.tasks i=tk at*
 obtain ⟨p1,p2⟩:=hp
 obtain ⟨r1,r2⟩:=hr
 have hw:IntKind.i64.wrap (rl+tk.dead)=rl+tk.dead:=IntWalk.i64_in _ (by omega)
 clear hb hdom hcfg e1 hj hlt
 go_enter Tryd.func83,Tryd.ntmps83
 go_wp2_with fail
 go_quiet (fail)
 go_wp2_with fail
 go_ret
 exact ⟨rfl,byB⟩
theorem DomO.more {G G':Nat→Nat→Prop}{w:World}{d:TDom}{T:TDomS}(h:DomO G w d T)(hm:∀i b,G i b→G' i b)(hd:∀i j b,i≠j→G' i b→¬ G' j b)(hl:∀i b,G' i b→b < w.heap.size):DomO G' w d T:=
 ⟨h.o0.mono (hm 0),h.o1.mono (hm 1),h.o2.mono (hm 2),h.o3.mono (hm 3),h.o4.mono (hm 4),h.o5.mono (hm 5),hd,hl⟩
theorem kp_events (gk:Nat)(G:Nat→Nat→Prop)(B:Nat)(w:World)(c:TCfg)(S:TCfgS)(m:Int)(d:TDom)(T:TDomS)(h:Kp gk G B w c S m d T)(ev:TEv){A:Option Addr}{cc:Nat}{w3:World}{o:Obj}
    (hown:ownsZ w3 79 4 (.slice A (d.events.length+1) cc) (d.events.length+1) (d.events.flatMap TEv.cells++ev.cells)) (hg:(w.alloc o).grownBy w3 (rowZ (.slice T.a5 d.events.length T.n5)))
    (hat:∀b,rowZ (.slice A (d.events.length+1) cc)=some b→rowZ (.slice T.a5 d.events.length T.n5)=some b∨b=(w.alloc o).heap.size):
    Kp gk (addG G 5 w.heap.size w3.heap.size) B (w3.setCell ⟨gk,16,none⟩ (.slice A (d.events.length+1) cc)) c S m {d with events:=d.events++[ev]} {T with a5:=A,n5:=cc} ∧
    KEff gk B G (addG G 5 w.heap.size w3.heap.size) w (w3.setCell ⟨gk,16,none⟩ (.slice A (d.events.length+1) cc)):=by
  have hz:=(blk h.blk).2.2
  have hs3:=hg.size
  simp at hs3
  have hrow:∀b,rowZ (.slice T.a5 d.events.length T.n5)=some b→G 5 b:=(ozl_flat.1 h.dom.o5).2
  have hold:∀b,b < w.heap.size→(¬ G 5 b)→w3.heap[b]?=w.heap[b]?:=fun b hb hn=>
    (hg.block b (by simp;omega) (fun e=>hn (hrow b e.symm))).trans (heap_alloc_old _ _ hb)
  have hD:=(h.dom.keep (w':=w.alloc o) (fun i b hb=>heap_alloc_old _ _ (h.dom.lt i b hb)) (by simp)).events (w1:=w3) [ev] (by simp) (by simpa using hown) hg hat
  have hD2:DomO (addG G 5 w.heap.size w3.heap.size) w3 {d with events:=d.events++[ev]} {T with a5:=A,n5:=cc} :=
    hD.more (fun i b hb => by rcases hb with hb | hb
                              · exact .inl hb
                              · exact .inr ⟨hb.1,by have:=hb.2.1;simp at this;omega,hb.2.2⟩) (addG_dis h.dom.dis h.dom.lt) (fun i b hb=>by
      rcases hb with hb|hb
      · have:=h.dom.lt i b hb;omega
      · exact hb.2.2)
  have hap:∀i,¬ addG G 5 w.heap.size w3.heap.size i gk:=fun i hb=>by
    rcases hb with hb|hb
    · exact (h.apart i gk hb).1 rfl
    · omega
  refine ⟨⟨?_,?_,hD2.setCell hap,fun i b hb=>?_,h.lo⟩,⟨?_,fun b hb hne hn=>?_,fun i b hb=>?_⟩⟩
  · have hk:=(hold gk hz (fun hb=>(h.apart 5 gk hb).1 rfl)).trans h.blk
    refine (heap_set_same hk).trans ?_
    simp [Array.setIfInBounds]
  · refine h.cfg.keep fun b hb=>?_
    have hb:b < B:=hb
    have:=h.lo
    exact heap_set_far (hold b (by omega) (fun e=>by have:=(h.apart 5 b e).2;omega)) (by simp;omega)
  · rcases hb with hb|hb
    · exact h.apart i b hb
    · have:=h.lo;omega
  · have:=h.lo
    refine Below.setCell (Below.grown (w:=w.alloc o) (Below.alloc (Below.refl _ _) (by omega) _) hg (by simp;omega) (fun k hk=>(h.apart 5 k (hrow k hk)).2)) (by simp;omega) _
  · exact heap_set_far (hold b hb (hn 5)) (by simp;exact hne)
  · rcases hb with hb|hb
    · exact .inl hb
    · exact .inr ⟨hb.2.1,by simpa using hb.2.2⟩
theorem keeperTell (gk:Nat)(G:Nat→Nat→Prop)(B:Nat)(w:World)(c:TCfg)(S:TCfgS)(m:Int)(d:TDom)(T:TDomS)(h:Kp gk G B w c S m d T)(at_ kind a b:Int)(hn:d.events.length+1≤4398046511104):
  Calls Tryd.prog 82 #[.pointer (some ⟨gk,0,none⟩),.int .i64 at_,.int .i64 kind,.int .i64 a,.int .i64 b] w fun e w'=>∃A n,e= .returned (.tuple #[])∧
   Kp gk (addG G 5 w.heap.size w'.heap.size) B w' c S m {d with events:=d.events++[⟨at_,kind,a,b⟩]} {T with a5:=A,n5:=n} ∧KEff gk B G (addG G 5 w.heap.size w'.heap.size) w w':=by
 have HE:=fun {A:Option Addr} {cc:Nat} {w3:World} {o:Obj} =>zH (kp_events gk G B w c S m d T h ⟨at_,kind,a,b⟩ (A:=A) (cc:=cc) (w3:=w3) (o:=o))
 have hown:=(ozl_flat.1 h.dom.o5).1
 have hrow:=(ozl_flat.1 h.dom.o5).2
 have hap:=zH h.apart
 obtain ⟨hb,_,_,_,hlo⟩:=h
 obtain ⟨cb,fb,zb⟩:=blk hb
 have hown:ownsZ w 79 4 (.slice T.a5 d.events.length T.n5) d.events.length (d.events.flatMap TEv.cells):=hown
 go_enter Tryd.func82,Tryd.ntmps82
 have h1e:∀u∈[Value.int .i64 at_,.int .i64 kind,.int .i64 a,.int .i64 b],u.oneCell'=true:=by intro u hu;exact one_ev [⟨at_,kind,a,b⟩] u (by simpa [TEv.cells] using hu)
 go_wp2_with (at_builtin;refine wpList_appZ rfl (.tmp 15) (.tmp 21) _ rfl tyEv (.slice T.a5 d.events.length T.n5) d.events.length (d.events.flatMap TEv.cells) (by rfl) (ownZ_keep hown (fun b hb=>heap_alloc_old _ _ (ownZ_lt hown b hb))) (some ⟨w.heap.size,0,none⟩) 1 1 [.int .i64 at_,.int .i64 kind,.int .i64 a,.int .i64 b] (by rfl) byR h1e (by unfold maxLen;omega) (by omega) (fun A3 c3 w3 own3 gr3 at3=>?_);have z3:w.heap.size+1≤w3.heap.size:=(by have:=gr3.size;simpa using this);have hb3:=(gr3.block gk (by simp;omega) (fun e=>(hap.out 5 gk (hrow gk e.symm)).1 rfl)).trans ((heap_alloc_old _ _ zb).trans hb);obtain ⟨cb3,fb3,zb3⟩:=blk hb3)
 refine bodyPost_end (v:= .tuple #[]) (by simp [results,Tryd.results82,go_sem, *]) rfl ?_
 refine ⟨A3,c3,rfl,?_⟩
 have hh:=HE.out own3 gr3 at3
 simpa using hh
theorem keeperAhead (gk:Nat)(G:Nat→Nat→Prop)(B:Nat)(w:World)(c:TCfg)(S:TCfgS)(m:Int)(d:TDom)(T:TDomS)(h:Kp gk G B w c S m d T)(x y:TJob)
  (hx:0≤x.task∧x.task < c.tasks.length) (hy:0≤y.task∧y.task < c.tasks.length)
  (hpx:0≤(taskOf c x.task).dead∧(taskOf c x.task).dead≤5000) (hpy:0≤(taskOf c y.task).dead∧(taskOf c y.task).dead≤5000)
  (hrx:0≤x.released∧x.released≤100000) (hry:0≤y.released∧y.released≤100000) (hk6:c.tasks.length≤6):
  Calls Tryd.prog 84 #[.pointer (some ⟨gk,0,none⟩),.agg #[.int .i64 x.task,.int .i64 x.number,.int .i64 x.released,.int .i64 x.used,.bool x.ran,.bool x.missed],.agg #[.int .i64 y.task,.int .i64 y.number,.int .i64 y.released,.int .i64 y.used,.bool y.ran,.bool y.missed]] w fun e w'=>e= .returned (.bool (aheadJ c x y))∧Below w.heap.size w w':=by
 replace h:=zH h
 go_enter Tryd.func84,Tryd.ntmps84
 go_wp2_with fail
 refine wp_region_inv [9,10,11,12,13,14,7,8] (fun l f W=>(Below w.heap.size w W∧W.heap[w.heap.size]?=some (.cells #[.int .i64 x.task,.int .i64 x.number,.int .i64 x.released,.int .i64 x.used,.bool x.ran,.bool x.missed] 74)∧W.heap[w.heap.size+1]?=some (.cells #[.int .i64 y.task,.int .i64 y.number,.int .i64 y.released,.int .i64 y.used,.bool y.ran,.bool y.missed] 74)∧l.size=8)∧Fa l 0 (f 9= .pointer (some ⟨gk,0,none⟩))∧Fa l 1 (f 10= .agg #[.int .i64 x.task,.int .i64 x.number,.int .i64 x.released,.int .i64 x.used,.bool x.ran,.bool x.missed])∧Fa l 2 (f 11= .int .i64 (lateOf c x))∧Fa l 3 (f 12= .pointer (some ⟨gk,0,none⟩))∧Fa l 4 (f 13= .agg #[.int .i64 y.task,.int .i64 y.number,.int .i64 y.released,.int .i64 y.used,.bool y.ran,.bool y.missed])∧Fa l 5 (f 14= .int .i64 (lateOf c y))∧Fa l 6 (f 7= .int .i64 (lateOf c x))∧Fa l 7 (f 8= .int .i64 (lateOf c y))) (by kernel_rfl) (by decide) (by kernel_rfl) (by intro s hs;simp at hs⊢;omega) ?_ ?_ ?_
 ·intro l hz hl
  exact ⟨⟨byB,by exact byH,by exact byH,hz⟩,.no (hl 0),.no (hl 1),.no (hl 2),.no (hl 3),.no (hl 4),.no (hl 5),.no (hl 6),.no (hl 7)⟩
 ·refine StepsL.c 1 [] (fun l f W hR hn hb K Q2 hK=>?_) ?_
  ·obtain ⟨hS,h0,h1,h2,h3,h4,h5,h6,h7⟩:=hR
   clear hb
   refine ⟨?_⟩
   simp only [pfs] at hK⊢
   go_simp
   exact hK.out _ _ byK
  refine StepsL.c 2 [] (fun l f W hR hn hb K Q2 hK=>?_) ?_
  ·obtain ⟨hS,h0,h1,h2,h3,h4,h5,h6,h7⟩:=hR
   clear hb
   refine ⟨?_⟩
   simp only [pfs] at hK⊢
   obtain ⟨cS,fS,zS⟩:=blk hS.2.1
   go_simp
   exact hK.out _ _ byK
  refine StepsL.c 3 [0,1] (fun l f W hR hn hb K Q2 hK=>?_) ?_
  ·obtain ⟨hS,h0,h1,h2,h3,h4,h5,h6,h7⟩:=hR
   have q0:=h0.out (hb 0 (by simp))
   have q1:=h1.out (hb 1 (by simp))
   clear hb
   refine ⟨?_⟩
   simp only [pfs] at hK⊢
   (try simp only [q0,q1] at hK)
   have HC:=keeperLate gk G B W c S m d T (h.out.ext hS.1) x hx hpx hrx hk6
   go_simp
   go_at_call 83
   refine HC.mono ?_
   clear HC
   rintro e w3 ⟨rfl,hb1⟩
   try dsimp only
   try simp only [Act.put,List.setIfInBounds_toArray,List.set_cons_zero,List.set_cons_succ]
   refine hK.out _ _ ⟨⟨hS.1.trans (hb1.mono hS.1.size),(hb1.block _ (blk hS.2.1).2.2).trans hS.2.1,(hb1.block _ (blk hS.2.2.1).2.2).trans hS.2.2.1,by simpa using hS.2.2.2⟩,h0.k,h1.k,⟨fun _=>rfl⟩,h3.k,h4.k,h5.k,h6.k,h7.k⟩
  refine StepsL.c 4 [] byOp ?_
  refine StepsL.c 5 [] (fun l f W hR hn hb K Q2 hK=>?_) ?_
  ·obtain ⟨hS,h0,h1,h2,h3,h4,h5,h6,h7⟩:=hR
   clear hb
   refine ⟨?_⟩
   simp only [pfs] at hK⊢
   obtain ⟨cS,fS,zS⟩:=blk hS.2.2.1
   go_simp
   exact hK.out _ _ byK
  refine StepsL.c 6 [3,4,2] (fun l f W hR hn hb K Q2 hK=>?_) ?_
  ·obtain ⟨hS,h0,h1,h2,h3,h4,h5,h6,h7⟩:=hR
   have q2:=h2.out (hb 2 (by simp))
   have q3:=h3.out (hb 3 (by simp))
   have q4:=h4.out (hb 4 (by simp))
   clear hb
   refine ⟨?_⟩
   simp only [pfs] at hK⊢
   (try simp only [q2,q3,q4] at hK)
   have HC:=keeperLate gk G B W c S m d T (h.out.ext hS.1) y hy hpy hry hk6
   go_simp
   go_at_call 83
   refine HC.mono ?_
   clear HC
   rintro e w3 ⟨rfl,hb1⟩
   try dsimp only
   try simp only [Act.put,List.setIfInBounds_toArray,List.set_cons_zero,List.set_cons_succ]
   refine hK.out _ _ ⟨⟨hS.1.trans (hb1.mono hS.1.size),(hb1.block _ (blk hS.2.1).2.2).trans hS.2.1,(hb1.block _ (blk hS.2.2.1).2.2).trans hS.2.2.1,by simpa using hS.2.2.2⟩,h0.k,h1.k,h2.k,h3.k,h4.k,⟨fun _=>rfl⟩,h6.k,h7.k⟩
  refine StepsL.c 7 [2,5,0,1,2] (fun l f W hR hn hb K Q2 hK=>?_) ?_
  ·obtain ⟨hS,h0,h1,h2,h3,h4,h5,h6,h7⟩:=hR
   have q0:=h0.out (hb 0 (by simp))
   have q1:=h1.out (hb 1 (by simp))
   have q2:=h2.out (hb 2 (by simp))
   have q5:=h5.out (hb 5 (by simp))
   clear hb
   refine ⟨?_⟩
   simp only [pfs] at hK⊢
   (try simp only [q0,q1,q2,q5] at hK)
   go_simp
   exact hK.out _ _ byK
  refine StepsL.c 8 [5,6,0,1,2,3,4,5,6] (fun l f W hR hn hb K Q2 hK=>?_) ?_
  ·obtain ⟨hS,h0,h1,h2,h3,h4,h5,h6,h7⟩:=hR
   have q0:=h0.out (hb 0 (by simp))
   have q1:=h1.out (hb 1 (by simp))
   have q2:=h2.out (hb 2 (by simp))
   have q3:=h3.out (hb 3 (by simp))
   have q4:=h4.out (hb 4 (by simp))
   have q5:=h5.out (hb 5 (by simp))
   have q6:=h6.out (hb 6 (by simp))
   clear hb
   refine ⟨?_⟩
   simp only [pfs] at hK⊢
   (try simp only [q0,q1,q2,q3,q4,q5,q6] at hK)
   go_simp
   exact hK.out _ _ byK
  exact StepsL.nil
 ·intro l f W hR hall
  obtain ⟨hS,h0,h1,h2,h3,h4,h5,h6,h7⟩:=hR
  have q0:=h0.out (hall 0 (by decide))
  have q1:=h1.out (hall 1 (by decide))
  have q2:=h2.out (hall 2 (by decide))
  have q3:=h3.out (hall 3 (by decide))
  have q4:=h4.out (hall 4 (by decide))
  have q5:=h5.out (hall 5 (by decide))
  have q6:=h6.out (hall 6 (by decide))
  have q7:=h7.out (hall 7 (by decide))
  clear h0 h1 h2 h3 h4 h5 h6 h7
  obtain ⟨hB,h1,h2,_⟩:=hS
  obtain ⟨c1,f1,z1⟩:=blk h1
  obtain ⟨c2,f2,z2⟩:=blk h2
  simp only [pfs]
  simp only [q6,q7]
  generalize hla:lateOf c x=la at*
  generalize hlb:lateOf c y=lb at*
  clear q0 q1 q2 q3 q4 q5 hpx hpy hrx hry hx hy
  go_wp2_with fail
  ·refine bodyPost_ret (v:= .bool (decide (la < lb))) (by simp [results,Tryd.results84,go_sem, *]) rfl ?_
   exact ⟨by unfold aheadJ;clear hall;simp_all,hB⟩
  ·refine bodyPost_ret (v:= .bool (decide (x.task < y.task))) (by simp [results,Tryd.results84,go_sem, *]) rfl ?_
   exact ⟨by unfold aheadJ;clear hall;simp_all,hB⟩
  ·refine bodyPost_ret (v:= .bool (decide (x.number < y.number))) (by simp [results,Tryd.results84,go_sem, *]) rfl ?_
   exact ⟨by unfold aheadJ;clear hall;simp_all,hB⟩
end
section
set_option maxRecDepth 100000
set_option maxHeartbeats 1000000
def regionOf (n:Nat):Code→Option Code
 | .region i ops d=>if ops.size=n then some (.region i ops d) else none
 | .seq a b=>match regionOf n a with
  |some c=>some c
  |none=>regionOf n b
 | .cond _ a b=>match regionOf n a with
  |some c=>some c
  |none=>regionOf n b
 | .block _ c=>regionOf n c
 | .loop c=>regionOf n c
 | .scope c=>regionOf n c
 |_=>none
noncomputable def turnCode:Code:=((Tryd.f37.body.bind (regionOf 26)).getD .skip)
theorem reachTurn (C:Code)(hC:C=turnCode)(n ks kd i g gi gx c1:Nat)(xz:Int)(b1 b2:Bool)(hi1:i < n)(hs1:ks < n)(hd1:kd < n)(wr:World)(hn4:n≤4)
  (cx:∀oo,wr.cell? ⟨gx,oo,none⟩=#[.int .i64 ks,.int .i64 kd,.int .i64 xz][oo]?) (fx:∀oo,wr.frozen? ⟨gx,oo,none⟩=false) (zx:gx < wr.heap.size)
  (hcr:wr.cell? ⟨g,i,none⟩=some (.slice (some ⟨gi,0,none⟩) n n)) (hcs:wr.cell? ⟨gi,ks,none⟩=some (.bool b1)) (hcd:wr.cell? ⟨gi,kd,none⟩=some (.bool b2))
  (fg:∀oo,wr.frozen? ⟨gi,oo,none⟩=false) (zg:gi < wr.heap.size)
  (u0 u1 u2 u4 u5 u6 u9 u10 u11 u12 u13 u14 u15 u16 u17 u18 u19 u20 u21 u22 u23 u24 u25 u26 u27 u28 u29 u30 u31 u32 u33 u34 u35 u36 u37 u38 u39 u40 u41 u42 u43 u44 u45 u46 u47 u48 u49 u50 u51 u52 u53 u54 u55 u56 u57 u58 u59 u60 u61 u62 u63 u64 u65 u66 u67 u68 u69:Value) (Q:Exit→Act→World→Prop)
  (hQ:∀v41 v42 v43 v44 v45 v46 v47 v48 v49 v50 v51 v52 v53 v54 v55 v56 v57 v58 v59 v60 v61 v62 v63 v64 v65:Value,Q .normal ⟨#[u0,u1,u2,.slice (some ⟨g,0,none⟩) n c1,u4,u5,u6,.pointer (some ⟨gx,0,none⟩),.int .i64 i,u9,u10,u11,u12,u13,u14,u15,u16,u17,u18,u19,u20,u21,u22,u23,u24,u25,u26,u27,u28,u29,u30,u31,u32,u33,u34,u35,u36,u37,u38,u39,u40,v41,v42,v43,v44,v45,v46,v47,v48,v49,v50,v51,v52,v53,v54,v55,v56,v57,v58,v59,v60,v61,v62,v63,v64,v65,u66,u67,u68,u69],[]⟩ (wr.setCell ⟨gi,kd,none⟩ (.bool (b2||b1))).drew):
  Code.wp Tryd.prog C Q ⟨#[u0,u1,u2,.slice (some ⟨g,0,none⟩) n c1,u4,u5,u6,.pointer (some ⟨gx,0,none⟩),.int .i64 i,u9,u10,u11,u12,u13,u14,u15,u16,u17,u18,u19,u20,u21,u22,u23,u24,u25,u26,u27,u28,u29,u30,u31,u32,u33,u34,u35,u36,u37,u38,u39,u40,u41,u42,u43,u44,u45,u46,u47,u48,u49,u50,u51,u52,u53,u54,u55,u56,u57,u58,u59,u60,u61,u62,u63,u64,u65,u66,u67,u68,u69],[]⟩ wr:=by
 subst hC
 have hi0:(0:Int)≤i:=by omega
 have hks0:(0:Int)≤ks:=by omega
 have hkd0:(0:Int)≤kd:=by omega
 have hi2:(i:Int) < n:=by omega
 have hks2:(ks:Int) < n:=by omega
 have hkd2:(kd:Int) < n:=by omega
 replace hQ:=zH hQ
 conv=>arg 2;whnf
 cases b2
 ·(refine wp_region_still_tail 25 (by kernel_rfl) (by kernel_rfl) ?_;simp only [List.take_succ_cons,List.take_zero,List.drop_succ_cons,List.drop_zero];(iterate 25 (with_reducible refine wpStill_step (fun K hK=>?_);replace hK:=zH hK;go_simp;with_reducible refine hK.out _ ?_;clear hK K));refine wpStill_nil ?_)
  change wpList _ _ _ _ _ wr.drew
  go_wp2_with fail
  exact hQ.out _ _ _ _ _ _ _ _ _ _ _ _ _ _ _ _ _ _ _ _ _ _ _ _ _
 ·(refine wp_region_still_tail 25 (by kernel_rfl) (by kernel_rfl) ?_;simp only [List.take_succ_cons,List.take_zero,List.drop_succ_cons,List.drop_zero];(iterate 25 (with_reducible refine wpStill_step (fun K hK=>?_);replace hK:=zH hK;go_simp;with_reducible refine hK.out _ ?_;clear hK K));refine wpStill_nil ?_)
  change wpList _ _ _ _ _ wr.drew
  go_wp2_with fail
  exact hQ.out _ _ _ _ _ _ _ _ _ _ _ _ _ _ _ _ _ _ _ _ _ _ _ _ _
end
section
set_option maxRecDepth 100000
set_option maxHeartbeats 4000000
theorem CfgOk.job {c:TCfg}{dom:Int}{j:TJob}(hc:CfgOk c)(h:JobOk c dom j):0≤(taskOf c j.task).dead∧(taskOf c j.task).dead≤5000:=by
 have:=hc.task j.task.toNat (by have:=h.task;omega)
 unfold taskOf
 omega
theorem DomO.job_cells {G:Nat→Nat→Prop}{w:World}{d:TDom}{T:TDomS}(h:DomO G w d T){i:Nat}(hi:i < d.jobs.length):
  ∃g,T.a0=some ⟨g,0,none⟩∧G 0 g∧g < w.heap.size∧w.cell? ⟨g,i*6,none⟩=some (.int .i64 (nth d.jobs i).task)∧w.cell? ⟨g,i*6+1,none⟩=some (.int .i64 (nth d.jobs i).number)∧w.cell? ⟨g,i*6+2,none⟩=some (.int .i64 (nth d.jobs i).released)∧
   w.cell? ⟨g,i*6+3,none⟩=some (.int .i64 (nth d.jobs i).used)∧w.cell? ⟨g,i*6+4,none⟩=some (.bool (nth d.jobs i).ran)∧w.cell? ⟨g,i*6+5,none⟩=some (.bool (nth d.jobs i).missed):=by
 obtain ⟨g,e,hG,hg,hc,hf,_⟩:=h.job hi
 exact ⟨g,e,hG,hg,hc 0 _ rfl,hc 1 _ rfl,hc 2 _ rfl,hc 3 _ rfl,hc 4 _ rfl,hc 5 _ rfl⟩
theorem keeperBest (gk:Nat)(G:Nat→Nat→Prop)(B:Nat)(w:World)(c:TCfg)(S:TCfgS)(m:Int)(d:TDom)(T:TDomS)(h:Kp gk G B w c S m d T)(hc:CfgOk c)(hd:DomOkW c m d):
  Calls Tryd.prog 70 #[.pointer (some ⟨gk,0,none⟩)] w fun e w'=>e= .returned (.int .i64 (bestOf c d.jobs))∧Below w.heap.size w w':=by
 have hk:=zH h
 obtain ⟨hb,_,_,_,hlo⟩:=h
 obtain ⟨cb,fb,zb⟩:=blk hb
 have hn:=hd.njobs
 go_enter Tryd.func70,Tryd.ntmps70
 go_wp2_with fail
 clear cb fb
 go_loopw [3,12] (fun bv iv wr=>∃(i:Nat) (b:Int),i≤d.jobs.length∧bv= .int .i64 b∧iv= .int .i64 i∧BestTo c d.jobs i b∧Below w.heap.size w wr) (fun bv iv wr=>(d.jobs.length - intOf iv).toNat)
 case atStart=>exact ⟨0,-1,Nat.zero_le _,rfl,rfl,BestTo.zero _ _,byB⟩
 case round=>
  obtain ⟨i,b,hi,rfl,rfl,hbt,hbr⟩:=hrel
  have hK:=hk.out.ext hbr
  have hsz:=hbr.size
  by_cases hlt:i < d.jobs.length
  ·obtain ⟨g,e0,hG,hg,k0,k1,k2,k3,k4,k5⟩:=hK.dom.job_cells hlt
   have hbw:=hK.blk
   rw [e0] at hbw
   obtain ⟨cw,fw,zw⟩:=blk hbw
   rw [e0]
   have hil:(i:Int) < d.jobs.length:=by omega
   have hi0:(0:Int)≤i:=by omega
   by_cases hb0:b < 0
   ·go_wp2_with fail
    go_quiet (fail)
    go_wp2_with fail
    go_roundw
    case rel=>exact ⟨i+1,i,by omega,rfl,by go_num,hbt.take (.inl hb0),byB⟩
    case measure=>simp [intOf];omega
   ·obtain ⟨ib,hib,rfl⟩:∃ib:Nat,ib < i∧b=ib:=by
     rcases hbt with ⟨_,rfl⟩|⟨ib,h1,h2,_⟩
     ·omega
     ·exact ⟨ib,h1,h2⟩
    have hibl:(ib:Int) < d.jobs.length:=by omega
    have hib0:(0:Int)≤ib:=by omega
    go_wp2_with fail
    generalize hW:wr.alloc (.cells #[.int .i64 (nth d.jobs i).task,.int .i64 (nth d.jobs i).number,.int .i64 (nth d.jobs i).released,.int .i64 (nth d.jobs i).used,.bool (nth d.jobs i).ran,.bool (nth d.jobs i).missed] 74)=W1
    have hbx:W1.heap[wr.heap.size]?=some (.cells #[.int .i64 (nth d.jobs i).task,.int .i64 (nth d.jobs i).number,.int .i64 (nth d.jobs i).released,.int .i64 (nth d.jobs i).used,.bool (nth d.jobs i).ran,.bool (nth d.jobs i).missed] 74):=by rw [← hW];exact heapAt _ _ _ rfl
    have hbr1:Below w.heap.size w W1:=(by rw [← hW];exact byB)
    have hK1:=hk.out.ext hbr1
    have hb1:=hK1.blk
    rw [e0] at hb1
    obtain ⟨g',e0',_,_,q0,q1,q2,q3,q4,q5⟩:=hK1.dom.job_cells (i:=ib) (by omega)
    obtain rfl:g=g':=by rw [e0] at e0';injection e0' with e;injection e
    replace hW:=zH hW
    obtain ⟨cx,fx,zx⟩:=blk hbx
    obtain ⟨cy,fy,zy⟩:=blk hb1
    have HC:=keeperAhead gk G B W1.drew c S m d T (hk.out.ext hbr1.drew) (nth d.jobs i) (nth d.jobs ib) (hd.job i hlt).task (hd.job ib (by omega)).task (hc.job (hd.job i hlt)) (hc.job (hd.job ib (by omega))) (hd.job i hlt).released (hd.job ib (by omega)).released hc.ntasks
    replace HC:=zH HC
    replace hK:=zH hK
    replace hK1:=zH hK1
    clear k0 k1 k2 k3 k4 k5 hbw cw fw zw
    (refine wp_region_still_tail 13 (by kernel_rfl) (by kernel_rfl) ?_;simp only [List.take_succ_cons,List.take_zero,List.drop_succ_cons,List.drop_zero];(iterate 13 (with_reducible refine wpStill_step (fun K hK=>?_);replace hK:=zH hK;go_simp;with_reducible refine hK.out _ ?_;clear hK K));refine wpStill_nil ?_)
    change wpList _ _ _ _ _ W1.drew
    go_wp2_with (go_at_call 84;refine HC.out.mono ?_;rintro e w2 ⟨rfl,hb2⟩;generalize hA:aheadJ c (nth d.jobs i) (nth d.jobs ib)=ab)
    ·have hbr2:Below w.heap.size w w2:=hbr1.drew.trans (hb2.mono hbr1.drew.size)
     rename_i hcase
     exact ⟨⟨i+1,i,by omega,rfl,by go_num,hbt.take (.inr (by rw [show (ib:Int).toNat=ib by omega,hA];rcases hcase with h|h;omega;exact h)),hbr2⟩,by simp [intOf];omega⟩
    ·have hbr2:Below w.heap.size w w2:=hbr1.drew.trans (hb2.mono hbr1.drew.size)
     rename_i hcase
     exact ⟨⟨i+1,ib,by omega,rfl,by go_num,hbt.stay hib0 (by rw [show (ib:Int).toNat=ib by omega,hA];exact hcase.2),hbr2⟩,by simp [intOf];omega⟩
  ·obtain rfl:i=d.jobs.length:=by omega
   go_wp2_with fail
   refine bodyPost_ret (v:= .int .i64 b) (by simp [results,Tryd.results70,go_sem, *]) rfl ?_
   exact ⟨by rw [hbt.best],hbr⟩
end
end Go.Proofs.YtinlmkhlgclbfabDoor
