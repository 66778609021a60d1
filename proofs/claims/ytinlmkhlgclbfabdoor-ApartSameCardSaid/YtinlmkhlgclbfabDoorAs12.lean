/- DomF -/
import Derived.Test.YtinlmkhlgclbfabDoorAs10
import Derived.Test.YtinlmkhlgclbfabDoorAs11
namespace Go.Proofs.YtinlmkhlgclbfabDoor
open Go.RowKit
set_option maxRecDepth 100000
set_option maxHeartbeats 4000000
def NewRow (s0:Nat) (W:World) (v:Value) (n:Nat) (E:TypeId) (cs:Array Value):Prop:=∃b,v= .slice (some ⟨b,0,none⟩) n n∧s0≤b∧W.heap[b]?=some (.cells cs E (0,0))
theorem NewRow.alloc {s0:Nat}{W:World}{v:Value}{n:Nat}{E:TypeId}{cs:Array Value}(h:NewRow s0 W v n E cs)(o:Obj):NewRow s0 (W.alloc o) v n E cs:=by
 obtain ⟨b,h1,h2,h3⟩:=h
 exact ⟨b,h1,h2,(heap_alloc_old _ _ (blk h3).2.2).trans h3⟩
theorem NewRow.ne_new {s0:Nat}{W:World}{v:Value}{n m k:Nat}{E:TypeId}{cs:Array Value}(h:NewRow s0 W v n E cs):v≠ .slice (some ⟨W.heap.size,0,none⟩) m k:=by
 obtain ⟨b,h1,h2,h3⟩:=h
 have:=(blk h3).2.2
 rw [h1];intro e;injection e with e _ _;injection e with e;injection e with e;omega
theorem NewRow.new_ne {s0:Nat}{W:World}{v:Value}{n m k:Nat}{E:TypeId}{cs:Array Value}(h:NewRow s0 W v n E cs): .slice (some ⟨W.heap.size,0,none⟩) m k≠v:=fun e=>h.ne_new e.symm
def RetDom (d:TDom) (w:World) (e:Ending) (w':World):Prop:=∃T G,e= .returned (.agg #[.slice T.a0 d.jobs.length T.n0,.slice T.a1 d.released.length T.n1,.int .i64 d.next,.slice T.a2 d.ins.length T.n2,.slice T.a3 d.taken.length T.n3,.slice T.a4 d.outs.length T.n4,.slice T.a5 d.events.length T.n5])∧DomO G w' d T∧(∀i b,G i b→w.heap.size≤b)∧Below w.heap.size w w'
theorem tyRing:TyS Tryd.prog 42 77 (.agg #[.slice none 0 0,.int .i64 0]) 2 32:=⟨Tryd.underlying42,info_of (by kernel_rfl),rfl,by decide⟩
theorem tyInts:TyS Tryd.prog 43 23 (.slice none 0 0) 1 24:=⟨Tryd.underlying43,info_of (by kernel_rfl),rfl,by decide⟩
theorem NewRow.keep {s0:Nat}{W W':World}{v:Value}{n:Nat}{E:TypeId}{cs:Array Value}(h:NewRow s0 W v n E cs)(hk:∀b,s0≤b→W'.heap[b]?=W.heap[b]?):NewRow s0 W' v n E cs:=by
 obtain ⟨b,h1,h2,h3⟩:=h
 exact ⟨b,h1,h2,(hk b h2).trans h3⟩
theorem dom_set {w:World}{g:Nat}{t:TypeId}{fr:Nat×Nat}{v0 v1 v2 v3 v4 v5 v6 u0 u1 u2 u3 u4 u5 u6:Value}(h:w.heap[g]?=some (.cells #[v0,v1,v2,v3,v4,v5,v6] t fr)):
  (((((((w.setCell ⟨g,0,none⟩ u0).setCell ⟨g,1,none⟩ u1).setCell ⟨g,2,none⟩ u2).setCell ⟨g,3,none⟩ u3).setCell ⟨g,4,none⟩ u4).setCell ⟨g,5,none⟩ u5).setCell ⟨g,6,none⟩ u6).heap[g]?=some (.cells #[u0,u1,u2,u3,u4,u5,u6] t fr):=by
 have e:=heap_set_same (i:=6) (u:=u6) (heap_set_same (i:=5) (u:=u5) (heap_set_same (i:=4) (u:=u4) (heap_set_same (i:=3) (u:=u3) (heap_set_same (i:=2) (u:=u2) (heap_set_same (i:=1) (u:=u1) (heap_set_same (i:=0) (u:=u0) h))))))
 simpa using e
theorem dom_far {w:World}{g b:Nat}{u0 u1 u2 u3 u4 u5 u6:Value}(h:b≠g):
  (((((((w.setCell ⟨g,0,none⟩ u0).setCell ⟨g,1,none⟩ u1).setCell ⟨g,2,none⟩ u2).setCell ⟨g,3,none⟩ u3).setCell ⟨g,4,none⟩ u4).setCell ⟨g,5,none⟩ u5).setCell ⟨g,6,none⟩ u6).heap[b]?=w.heap[b]?:=by
 repeat rw [Below.heap_setCell _ _ _ _ h]
theorem dom_below {B g:Nat}{w0 w:World}{u0 u1 u2 u3 u4 u5 u6:Value}(h:Below B w0 w)(hg:B≤g):
  Below B w0 (((((((w.setCell ⟨g,0,none⟩ u0).setCell ⟨g,1,none⟩ u1).setCell ⟨g,2,none⟩ u2).setCell ⟨g,3,none⟩ u3).setCell ⟨g,4,none⟩ u4).setCell ⟨g,5,none⟩ u5).setCell ⟨g,6,none⟩ u6):=
 ((((((h.setCell hg _).setCell hg _).setCell hg _).setCell hg _).setCell hg _).setCell hg _).setCell hg _
theorem made_flat1 (z:Value)(n:Nat):(madeCells #[z] n).toList=(List.replicate n [z]).flatten:=by
 have:=madeCells_flat #[z] n (by simp)
 rwa [show (#[z]:Array Value).size=1 from rfl,Nat.mul_one] at this
theorem fresh_end {c:TCfg}{w w1 W:World}{o1 o2:Obj}(hw1:(w.alloc o1).alloc o2=w1)(hB:Below (w.heap.size+1) w1 W)(k0:c.tasks.length≤6)(k1:c.chans.length≤4)(k2:c.owners.length≤4){b3 b7 b11 b15:Nat}
  (b3l:w.heap.size+2≤b3) (b7l:w.heap.size+2≤b7) (b11l:w.heap.size+2≤b11) (b15l:w.heap.size+2≤b15) (b3h:W.heap[b3]?=some (.cells (madeCells #[.int .i64 0] c.tasks.length) 3 (0,0)))
  (b7h:W.heap[b7]?=some (.cells (madeCells (.agg #[.slice none 0 0,.int .i64 0]:Value).cells (c.chans.length*2)) 77 (0,0))) (b11h:W.heap[b11]?=some (.cells (madeCells #[.int .i64 0] c.owners.length) 3 (0,0))) (b15h:W.heap[b15]?=some (.cells (madeCells #[.slice none 0 0] c.chans.length) 23 (0,0))) (hne:b3≠b11):
  RetDom (freshOf c) w (.returned (.agg #[.slice none 0 0,.slice (some ⟨b3,0,none⟩) c.tasks.length c.tasks.length,.int .i64 0,.slice (some ⟨b7,0,none⟩) c.chans.length c.chans.length,.slice (some ⟨b11,0,none⟩) c.owners.length c.owners.length,.slice (some ⟨b15,0,none⟩) c.chans.length c.chans.length,.slice none 0 0])) W:=by
 have hb:∀ {b c:Nat} {A:Option Addr} {n:Nat},rowZ (.slice (some ⟨b,0,none⟩) n n)=some c→c=b:=by
  intro b c A n h
  have:=rowZ_own h
  simpa [Value.ownBlock] using this.symm
 have ob3:ownsZ W 3 1 (.slice (some ⟨b3,0,none⟩) c.tasks.length c.tasks.length) c.tasks.length (List.replicate c.tasks.length [.int .i64 0]).flatten:=by have:=own_block (n:=c.tasks.length) (size:=1) b3h (by simp [madeCells]) (by unfold maxLen;omega);rwa [made_flat1] at this
 have r3:=ozl_made (e:=oInt) (x:=(0:Int)) ob3 rfl
 have ob11:ownsZ W 3 1 (.slice (some ⟨b11,0,none⟩) c.owners.length c.owners.length) c.owners.length (List.replicate c.owners.length [.int .i64 0]).flatten:=by have:=own_block (n:=c.owners.length) (size:=1) b11h (by simp [madeCells]) (by unfold maxLen;omega);rwa [made_flat1] at this
 have r11:=ozl_made (e:=oInt) (x:=(0:Int)) ob11 rfl
 have ob7:ownsZ W 77 2 (.slice (some ⟨b7,0,none⟩) c.chans.length c.chans.length) c.chans.length (List.replicate c.chans.length [.slice none 0 0,.int .i64 0]).flatten:=by
  have:=own_block (n:=c.chans.length) (size:=2) b7h (by simp [madeCells]) (by unfold maxLen;omega)
  have h2:=madeCells_flat (#[.slice none 0 0,.int .i64 0]:Array Value) c.chans.length (by simp)
  rw [show (#[.slice none 0 0,.int .i64 0]:Array Value).size=2 from rfl] at h2
  rw [show (.agg #[.slice none 0 0,.int .i64 0]:Value).cells=#[.slice none 0 0,.int .i64 0] from rfl,h2] at this
  exact this
 have r7:=ozl_made (e:=oRing) (x:=(⟨[],0⟩:TRing)) ob7 ⟨_,rfl,OZl.nil _ _ _ _⟩
 have ob15:ownsZ W 23 1 (.slice (some ⟨b15,0,none⟩) c.chans.length c.chans.length) c.chans.length (List.replicate c.chans.length [.slice none 0 0]).flatten:=by have:=own_block (n:=c.chans.length) (size:=1) b15h (by simp [madeCells]) (by unfold maxLen;omega);rwa [made_flat1] at this
 have r15:=ozl_made (e:=oInts) (x:=([]:List Int)) ob15 ⟨_,rfl,OZl.nil _ _ _ _⟩
 have hlt:∀ {b:Nat} {o:Obj},W.heap[b]?=some o→b < W.heap.size:=fun h=>(Array.getElem?_eq_some_iff.1 h).1
 have d37:b3≠b7:=by intro e;rw [e,b7h] at b3h;injection b3h with h;injection h with _ h;cases h
 have d315:b3≠b15:=by intro e;rw [e,b15h] at b3h;injection b3h with h;injection h with _ h;cases h
 have d711:b7≠b11:=by intro e;rw [e,b11h] at b7h;injection b7h with h;injection h with _ h;cases h
 have d715:b7≠b15:=by intro e;rw [e,b15h] at b7h;injection b7h with h;injection h with _ h;cases h
 have d1115:b11≠b15:=by intro e;rw [e,b15h] at b11h;injection b11h with h;injection h with _ h;cases h
 refine ⟨⟨none,0,some ⟨b3,0,none⟩,c.tasks.length,some ⟨b7,0,none⟩,c.chans.length,some ⟨b11,0,none⟩,c.owners.length,some ⟨b15,0,none⟩,c.chans.length,none,0⟩,fun i b=>(i=1∧b=b3)∨(i=2∧b=b7)∨(i=3∧b=b11)∨(i=4∧b=b15),?_,⟨OZl.nil _ _ _ _,?_,?_,?_,?_,OZl.nil _ _ _ _,?_,?_⟩,?_,?_⟩
 ·simp [freshOf]
 ·simp only [freshOf,List.length_replicate]
  exact r3.mono fun b h=>by have:=hb (A:=none) h;simp [this]
 ·simp only [freshOf,List.length_replicate]
  exact r7.mono fun b h=>by have:=hb (A:=none) h;simp [this]
 ·simp only [freshOf,List.length_replicate]
  exact r11.mono fun b h=>by have:=hb (A:=none) h;simp [this]
 ·simp only [freshOf,List.length_replicate]
  exact r15.mono fun b h=>by have:=hb (A:=none) h;simp [this]
 ·intro i j b hij h1 h2
  omega
 ·intro i b h
  have:=hlt b3h;have:=hlt b7h;have:=hlt b11h;have:=hlt b15h
  rcases h with ⟨_,rfl⟩|⟨_,rfl⟩|⟨_,rfl⟩|⟨_,rfl⟩<;>assumption
 ·intro i b h
  omega
 ·rw [← hw1] at hB
  exact ((Below.refl _ w).alloc (Nat.le_refl _) _).alloc (by simp) _|>.trans (hB.mono (by omega))
theorem readyFresh (c:TCfg)(S:TCfgS)(ok:CfgOk c)(w:World):
  Calls Tryd.prog 33 #[.agg #[.int .i64 c.sets,.int .i64 c.ways,.int .i64 c.doms,.int .i64 c.pad,.int .i64 c.quantum,.slice S.a0 c.slots.length S.n0,.slice S.a1 c.owners.length S.n1,.slice S.a2 c.chans.length S.n2,.slice S.a3 c.tasks.length S.n3]] w (RetDom (freshOf c) w):=by
 have k0:=ok.ntasks
 have k1:=ok.nchans
 have k2:=ok.nowners
 have hm0:=make_run tyInt c.tasks.length (by omega) (by omega)
 have hm1:=make_run tyRing c.chans.length (by omega) (by omega)
 have hm2:=make_run tyInt c.owners.length (by omega) (by omega)
 have hm3:=make_run tyInts c.chans.length (by omega) (by omega)
 go_enter Tryd.func33,Tryd.ntmps33
 go_wp2_with fail
 have hz1:w.heap.size+2≤((w.alloc (.cells #[.int .i64 c.sets,.int .i64 c.ways,.int .i64 c.doms,.int .i64 c.pad,.int .i64 c.quantum,.slice S.a0 c.slots.length S.n0,.slice S.a1 c.owners.length S.n1,.slice S.a2 c.chans.length S.n2,.slice S.a3 c.tasks.length S.n3] 27)).alloc (.cells #[.slice none 0 0,.slice none 0 0,.int .i64 0,.slice none 0 0,.slice none 0 0,.slice none 0 0,.slice none 0 0] 46)).heap.size:=by simp
 generalize hw1:(w.alloc (.cells #[.int .i64 c.sets,.int .i64 c.ways,.int .i64 c.doms,.int .i64 c.pad,.int .i64 c.quantum,.slice S.a0 c.slots.length S.n0,.slice S.a1 c.owners.length S.n1,.slice S.a2 c.chans.length S.n2,.slice S.a3 c.tasks.length S.n3] 27)).alloc (.cells #[.slice none 0 0,.slice none 0 0,.int .i64 0,.slice none 0 0,.slice none 0 0,.slice none 0 0,.slice none 0 0] 46)=w1 at hz1⊢
 refine wp_region_inv [3,4,5,6,7,8,9,10,11,12,13,14,15,16,17,18,19] (fun l f W=>(Below (w.heap.size+1) w1 W∧W.heap[w.heap.size]?=some (.cells #[.int .i64 c.sets,.int .i64 c.ways,.int .i64 c.doms,.int .i64 c.pad,.int .i64 c.quantum,.slice S.a0 c.slots.length S.n0,.slice S.a1 c.owners.length S.n1,.slice S.a2 c.chans.length S.n2,.slice S.a3 c.tasks.length S.n3] 27)∧(¬ Lst l 17→W.heap[w.heap.size+1]?=some (.cells #[.slice none 0 0,.slice none 0 0,.int .i64 0,.slice none 0 0,.slice none 0 0,.slice none 0 0,.slice none 0 0] 46))∧l.size=18)∧Fa l 0 (f 3= .pointer (some ⟨w.heap.size,8,none⟩))∧Fa l 1 (f 4= .slice S.a3 c.tasks.length S.n3)∧Fa l 2 (f 5= .int .i64 ((c.tasks.length:Nat):Int))∧Fa l 3 (NewRow (w.heap.size+2) W (f 6) c.tasks.length 3 (madeCells #[.int .i64 0] c.tasks.length))∧Fa l 4 (f 7= .pointer (some ⟨w.heap.size,7,none⟩))∧Fa l 5 (f 8= .slice S.a2 c.chans.length S.n2)∧Fa l 6 (f 9= .int .i64 ((c.chans.length:Nat):Int))∧Fa l 7 (NewRow (w.heap.size+2) W (f 10) c.chans.length 77 (madeCells (.agg #[.slice none 0 0,.int .i64 0]:Value).cells (c.chans.length*2)))∧Fa l 8 (f 11= .pointer (some ⟨w.heap.size,6,none⟩))∧Fa l 9 (f 12= .slice S.a1 c.owners.length S.n1)∧Fa l 10 (f 13= .int .i64 ((c.owners.length:Nat):Int))∧Fa l 11 (NewRow (w.heap.size+2) W (f 14) c.owners.length 3 (madeCells #[.int .i64 0] c.owners.length)∧(Lst l 3→f 6≠f 14))∧Fa l 12 (f 15= .pointer (some ⟨w.heap.size,7,none⟩))∧Fa l 13 (f 16= .slice S.a2 c.chans.length S.n2)∧Fa l 14 (f 17= .int .i64 ((c.chans.length:Nat):Int))∧Fa l 15 (NewRow (w.heap.size+2) W (f 18) c.chans.length 23 (madeCells #[.slice none 0 0] c.chans.length))∧Fa l 16 ((Lst l 3∧Lst l 7∧Lst l 11∧Lst l 15)∧f 19= .agg #[.slice none 0 0,f 6,.int .i64 0,f 10,f 14,f 18,.slice none 0 0])∧Fa l 17 ((Lst l 3∧Lst l 7∧Lst l 11∧Lst l 15)∧W.heap[w.heap.size+1]?=some (.cells #[.slice none 0 0,f 6,.int .i64 0,f 10,f 14,f 18,.slice none 0 0] 46))) (by kernel_rfl) (by decide) (by kernel_rfl) (by intro s hs;simp at hs⊢;omega) ?_ ?_ ?_
 ·intro l hz hl
  exact ⟨⟨(Below.refl _ _).drew,by rw [← hw1];exact byH,fun _=>by rw [← hw1];exact byH,hz⟩,.no (hl 0),.no (hl 1),.no (hl 2),.no (hl 3),.no (hl 4),.no (hl 5),.no (hl 6),.no (hl 7),.no (hl 8),.no (hl 9),.no (hl 10),.no (hl 11),.no (hl 12),.no (hl 13),.no (hl 14),.no (hl 15),.no (hl 16),.no (hl 17)⟩
 ·refine StepsL.c 1 [] (fun l f W hR hn hb K Q2 hK=>?_) ?_
  ·obtain ⟨hS,h0,h1,h2,h3,h4,h5,h6,h7,h8,h9,h10,h11,h12,h13,h14,h15,h16,h17⟩:=hR
   clear hb
   refine ⟨?_⟩
   simp only [pfs] at hK⊢
   go_simp
   refine hK.out _ _ ⟨⟨hS.1,hS.2.1,fun hn=>hS.2.2.1 fun h=>hn h.fwd,by simpa using hS.2.2.2⟩,⟨fun _=>rfl⟩,h1.k,h2.k,h3.k,h4.k,h5.k,h6.k,h7.k,h8.k,h9.k,h10.k,⟨fun hl=>⟨(h11.out hl.b).1,fun hl3=>(h11.out hl.b).2 hl3.b⟩⟩,h12.k,h13.k,h14.k,h15.k,h16.m,h17.m⟩
  refine StepsL.c 2 [0] (fun l f W hR hn hb K Q2 hK=>?_) ?_
  ·obtain ⟨hS,h0,h1,h2,h3,h4,h5,h6,h7,h8,h9,h10,h11,h12,h13,h14,h15,h16,h17⟩:=hR
   have q0:=h0.out (hb 0 (by simp))
   clear hb
   refine ⟨?_⟩
   simp only [pfs] at hK⊢
   (try simp only [q0] at hK)
   obtain ⟨cS,fS,zS⟩:=blk hS.2.1
   go_simp
   refine hK.out _ _ ⟨⟨hS.1,hS.2.1,fun hn=>hS.2.2.1 fun h=>hn h.fwd,by simpa using hS.2.2.2⟩,h0.k,⟨fun _=>rfl⟩,h2.k,h3.k,h4.k,h5.k,h6.k,h7.k,h8.k,h9.k,h10.k,⟨fun hl=>⟨(h11.out hl.b).1,fun hl3=>(h11.out hl.b).2 hl3.b⟩⟩,h12.k,h13.k,h14.k,h15.k,h16.m,h17.m⟩
  refine StepsL.c 3 [1] (fun l f W hR hn hb K Q2 hK=>?_) ?_
  ·obtain ⟨hS,h0,h1,h2,h3,h4,h5,h6,h7,h8,h9,h10,h11,h12,h13,h14,h15,h16,h17⟩:=hR
   have q1:=h1.out (hb 1 (by simp))
   clear hb
   refine ⟨?_⟩
   simp only [pfs] at hK⊢
   (try simp only [q1] at hK)
   go_simp
   refine hK.out _ _ ⟨⟨hS.1,hS.2.1,fun hn=>hS.2.2.1 fun h=>hn h.fwd,by simpa using hS.2.2.2⟩,h0.k,h1.k,⟨fun _=>rfl⟩,h3.k,h4.k,h5.k,h6.k,h7.k,h8.k,h9.k,h10.k,⟨fun hl=>⟨(h11.out hl.b).1,fun hl3=>(h11.out hl.b).2 hl3.b⟩⟩,h12.k,h13.k,h14.k,h15.k,h16.m,h17.m⟩
  refine StepsL.c 4 [2,2] (fun l f W hR hn hb K Q2 hK=>?_) ?_
  ·obtain ⟨hS,h0,h1,h2,h3,h4,h5,h6,h7,h8,h9,h10,h11,h12,h13,h14,h15,h16,h17⟩:=hR
   have q2:=h2.out (hb 2 (by simp))
   clear hb
   refine ⟨?_⟩
   simp only [pfs] at hK⊢
   (try simp only [q2] at hK)
   have hmk:=hm0
   have hsz:=Nat.le_trans hz1 hS.1.size
   go_simp
   refine hK.out _ _ ⟨⟨hS.1.alloc (by omega) _,(heap_alloc_old _ _ (blk hS.2.1).2.2).trans hS.2.1,fun hn=>(heap_alloc_old _ _ (blk (hS.2.2.1 (fun h=>hn h.fwd))).2.2).trans (hS.2.2.1 (fun h=>hn h.fwd)),by simpa using hS.2.2.2⟩,h0.k,h1.k,h2.k,⟨fun _=>⟨W.heap.size,rfl,hsz,heapAt _ _ _ rfl⟩⟩,h4.k,h5.k,h6.k,⟨fun hl=>(h7.out hl.b).alloc _⟩,h8.k,h9.k,h10.k,⟨fun hl=>⟨(h11.out hl.b).1.alloc _,fun hl3=>(h11.out hl.b).1.new_ne⟩⟩,h12.k,h13.k,h14.k,⟨fun hl=>(h15.out hl.b).alloc _⟩,⟨fun hl=>absurd (h16.out hl.b).1.1 hn⟩,⟨fun hl=>absurd (h17.out hl.b).1.1 hn⟩⟩
  refine StepsL.c 5 [] (fun l f W hR hn hb K Q2 hK=>?_) ?_
  ·obtain ⟨hS,h0,h1,h2,h3,h4,h5,h6,h7,h8,h9,h10,h11,h12,h13,h14,h15,h16,h17⟩:=hR
   clear hb
   refine ⟨?_⟩
   simp only [pfs] at hK⊢
   go_simp
   refine hK.out _ _ ⟨⟨hS.1,hS.2.1,fun hn=>hS.2.2.1 fun h=>hn h.fwd,by simpa using hS.2.2.2⟩,h0.k,h1.k,h2.k,h3.k,⟨fun _=>rfl⟩,h5.k,h6.k,h7.k,h8.k,h9.k,h10.k,⟨fun hl=>⟨(h11.out hl.b).1,fun hl3=>(h11.out hl.b).2 hl3.b⟩⟩,h12.k,h13.k,h14.k,h15.k,h16.m,h17.m⟩
  refine StepsL.c 6 [4] (fun l f W hR hn hb K Q2 hK=>?_) ?_
  ·obtain ⟨hS,h0,h1,h2,h3,h4,h5,h6,h7,h8,h9,h10,h11,h12,h13,h14,h15,h16,h17⟩:=hR
   have q4:=h4.out (hb 4 (by simp))
   clear hb
   refine ⟨?_⟩
   simp only [pfs] at hK⊢
   (try simp only [q4] at hK)
   obtain ⟨cS,fS,zS⟩:=blk hS.2.1
   go_simp
   refine hK.out _ _ ⟨⟨hS.1,hS.2.1,fun hn=>hS.2.2.1 fun h=>hn h.fwd,by simpa using hS.2.2.2⟩,h0.k,h1.k,h2.k,h3.k,h4.k,⟨fun _=>rfl⟩,h6.k,h7.k,h8.k,h9.k,h10.k,⟨fun hl=>⟨(h11.out hl.b).1,fun hl3=>(h11.out hl.b).2 hl3.b⟩⟩,h12.k,h13.k,h14.k,h15.k,h16.m,h17.m⟩
  refine StepsL.c 7 [5] (fun l f W hR hn hb K Q2 hK=>?_) ?_
  ·obtain ⟨hS,h0,h1,h2,h3,h4,h5,h6,h7,h8,h9,h10,h11,h12,h13,h14,h15,h16,h17⟩:=hR
   have q5:=h5.out (hb 5 (by simp))
   clear hb
   refine ⟨?_⟩
   simp only [pfs] at hK⊢
   (try simp only [q5] at hK)
   go_simp
   refine hK.out _ _ ⟨⟨hS.1,hS.2.1,fun hn=>hS.2.2.1 fun h=>hn h.fwd,by simpa using hS.2.2.2⟩,h0.k,h1.k,h2.k,h3.k,h4.k,h5.k,⟨fun _=>rfl⟩,h7.k,h8.k,h9.k,h10.k,⟨fun hl=>⟨(h11.out hl.b).1,fun hl3=>(h11.out hl.b).2 hl3.b⟩⟩,h12.k,h13.k,h14.k,h15.k,h16.m,h17.m⟩
  refine StepsL.c 8 [6,6] (fun l f W hR hn hb K Q2 hK=>?_) ?_
  ·obtain ⟨hS,h0,h1,h2,h3,h4,h5,h6,h7,h8,h9,h10,h11,h12,h13,h14,h15,h16,h17⟩:=hR
   have q6:=h6.out (hb 6 (by simp))
   clear hb
   refine ⟨?_⟩
   simp only [pfs] at hK⊢
   (try simp only [q6] at hK)
   have hmk:=hm1
   have hsz:=Nat.le_trans hz1 hS.1.size
   go_simp
   refine hK.out _ _ ⟨⟨hS.1.alloc (by omega) _,(heap_alloc_old _ _ (blk hS.2.1).2.2).trans hS.2.1,fun hn=>(heap_alloc_old _ _ (blk (hS.2.2.1 (fun h=>hn h.fwd))).2.2).trans (hS.2.2.1 (fun h=>hn h.fwd)),by simpa using hS.2.2.2⟩,h0.k,h1.k,h2.k,⟨fun hl=>(h3.out hl.b).alloc _⟩,h4.k,h5.k,h6.k,⟨fun _=>⟨W.heap.size,rfl,hsz,heapAt _ _ _ rfl⟩⟩,h8.k,h9.k,h10.k,⟨fun hl=>⟨(h11.out hl.b).1.alloc _,fun hl3=>(h11.out hl.b).2 hl3.b⟩⟩,h12.k,h13.k,h14.k,⟨fun hl=>(h15.out hl.b).alloc _⟩,⟨fun hl=>absurd (h16.out hl.b).1.2.1 hn⟩,⟨fun hl=>absurd (h17.out hl.b).1.2.1 hn⟩⟩
  refine StepsL.c 9 [] (fun l f W hR hn hb K Q2 hK=>?_) ?_
  ·obtain ⟨hS,h0,h1,h2,h3,h4,h5,h6,h7,h8,h9,h10,h11,h12,h13,h14,h15,h16,h17⟩:=hR
   clear hb
   refine ⟨?_⟩
   simp only [pfs] at hK⊢
   go_simp
   refine hK.out _ _ ⟨⟨hS.1,hS.2.1,fun hn=>hS.2.2.1 fun h=>hn h.fwd,by simpa using hS.2.2.2⟩,h0.k,h1.k,h2.k,h3.k,h4.k,h5.k,h6.k,h7.k,⟨fun _=>rfl⟩,h9.k,h10.k,⟨fun hl=>⟨(h11.out hl.b).1,fun hl3=>(h11.out hl.b).2 hl3.b⟩⟩,h12.k,h13.k,h14.k,h15.k,h16.m,h17.m⟩
  refine StepsL.c 10 [8] (fun l f W hR hn hb K Q2 hK=>?_) ?_
  ·obtain ⟨hS,h0,h1,h2,h3,h4,h5,h6,h7,h8,h9,h10,h11,h12,h13,h14,h15,h16,h17⟩:=hR
   have q8:=h8.out (hb 8 (by simp))
   clear hb
   refine ⟨?_⟩
   simp only [pfs] at hK⊢
   (try simp only [q8] at hK)
   obtain ⟨cS,fS,zS⟩:=blk hS.2.1
   go_simp
   refine hK.out _ _ ⟨⟨hS.1,hS.2.1,fun hn=>hS.2.2.1 fun h=>hn h.fwd,by simpa using hS.2.2.2⟩,h0.k,h1.k,h2.k,h3.k,h4.k,h5.k,h6.k,h7.k,h8.k,⟨fun _=>rfl⟩,h10.k,⟨fun hl=>⟨(h11.out hl.b).1,fun hl3=>(h11.out hl.b).2 hl3.b⟩⟩,h12.k,h13.k,h14.k,h15.k,h16.m,h17.m⟩
  refine StepsL.c 11 [9] (fun l f W hR hn hb K Q2 hK=>?_) ?_
  ·obtain ⟨hS,h0,h1,h2,h3,h4,h5,h6,h7,h8,h9,h10,h11,h12,h13,h14,h15,h16,h17⟩:=hR
   have q9:=h9.out (hb 9 (by simp))
   clear hb
   refine ⟨?_⟩
   simp only [pfs] at hK⊢
   (try simp only [q9] at hK)
   go_simp
   refine hK.out _ _ ⟨⟨hS.1,hS.2.1,fun hn=>hS.2.2.1 fun h=>hn h.fwd,by simpa using hS.2.2.2⟩,h0.k,h1.k,h2.k,h3.k,h4.k,h5.k,h6.k,h7.k,h8.k,h9.k,⟨fun _=>rfl⟩,⟨fun hl=>⟨(h11.out hl.b).1,fun hl3=>(h11.out hl.b).2 hl3.b⟩⟩,h12.k,h13.k,h14.k,h15.k,h16.m,h17.m⟩
  refine StepsL.c 12 [10,10] (fun l f W hR hn hb K Q2 hK=>?_) ?_
  ·obtain ⟨hS,h0,h1,h2,h3,h4,h5,h6,h7,h8,h9,h10,h11,h12,h13,h14,h15,h16,h17⟩:=hR
   have q10:=h10.out (hb 10 (by simp))
   clear hb
   refine ⟨?_⟩
   simp only [pfs] at hK⊢
   (try simp only [q10] at hK)
   have hmk:=hm2
   have hsz:=Nat.le_trans hz1 hS.1.size
   go_simp
   refine hK.out _ _ ⟨⟨hS.1.alloc (by omega) _,(heap_alloc_old _ _ (blk hS.2.1).2.2).trans hS.2.1,fun hn=>(heap_alloc_old _ _ (blk (hS.2.2.1 (fun h=>hn h.fwd))).2.2).trans (hS.2.2.1 (fun h=>hn h.fwd)),by simpa using hS.2.2.2⟩,h0.k,h1.k,h2.k,⟨fun hl=>(h3.out hl.b).alloc _⟩,h4.k,h5.k,h6.k,⟨fun hl=>(h7.out hl.b).alloc _⟩,h8.k,h9.k,h10.k,⟨fun _=>⟨⟨W.heap.size,rfl,hsz,heapAt _ _ _ rfl⟩,fun hl=>(h3.out hl.b).ne_new⟩⟩,h12.k,h13.k,h14.k,⟨fun hl=>(h15.out hl.b).alloc _⟩,⟨fun hl=>absurd (h16.out hl.b).1.2.2.1 hn⟩,⟨fun hl=>absurd (h17.out hl.b).1.2.2.1 hn⟩⟩
  refine StepsL.c 13 [] (fun l f W hR hn hb K Q2 hK=>?_) ?_
  ·obtain ⟨hS,h0,h1,h2,h3,h4,h5,h6,h7,h8,h9,h10,h11,h12,h13,h14,h15,h16,h17⟩:=hR
   clear hb
   refine ⟨?_⟩
   simp only [pfs] at hK⊢
   go_simp
   refine hK.out _ _ ⟨⟨hS.1,hS.2.1,fun hn=>hS.2.2.1 fun h=>hn h.fwd,by simpa using hS.2.2.2⟩,h0.k,h1.k,h2.k,h3.k,h4.k,h5.k,h6.k,h7.k,h8.k,h9.k,h10.k,⟨fun hl=>⟨(h11.out hl.b).1,fun hl3=>(h11.out hl.b).2 hl3.b⟩⟩,⟨fun _=>rfl⟩,h13.k,h14.k,h15.k,h16.m,h17.m⟩
  refine StepsL.c 14 [12] (fun l f W hR hn hb K Q2 hK=>?_) ?_
  ·obtain ⟨hS,h0,h1,h2,h3,h4,h5,h6,h7,h8,h9,h10,h11,h12,h13,h14,h15,h16,h17⟩:=hR
   have q12:=h12.out (hb 12 (by simp))
   clear hb
   refine ⟨?_⟩
   simp only [pfs] at hK⊢
   (try simp only [q12] at hK)
   obtain ⟨cS,fS,zS⟩:=blk hS.2.1
   go_simp
   refine hK.out _ _ ⟨⟨hS.1,hS.2.1,fun hn=>hS.2.2.1 fun h=>hn h.fwd,by simpa using hS.2.2.2⟩,h0.k,h1.k,h2.k,h3.k,h4.k,h5.k,h6.k,h7.k,h8.k,h9.k,h10.k,⟨fun hl=>⟨(h11.out hl.b).1,fun hl3=>(h11.out hl.b).2 hl3.b⟩⟩,h12.k,⟨fun _=>rfl⟩,h14.k,h15.k,h16.m,h17.m⟩
  refine StepsL.c 15 [13] (fun l f W hR hn hb K Q2 hK=>?_) ?_
  ·obtain ⟨hS,h0,h1,h2,h3,h4,h5,h6,h7,h8,h9,h10,h11,h12,h13,h14,h15,h16,h17⟩:=hR
   have q13:=h13.out (hb 13 (by simp))
   clear hb
   refine ⟨?_⟩
   simp only [pfs] at hK⊢
   (try simp only [q13] at hK)
   go_simp
   refine hK.out _ _ ⟨⟨hS.1,hS.2.1,fun hn=>hS.2.2.1 fun h=>hn h.fwd,by simpa using hS.2.2.2⟩,h0.k,h1.k,h2.k,h3.k,h4.k,h5.k,h6.k,h7.k,h8.k,h9.k,h10.k,⟨fun hl=>⟨(h11.out hl.b).1,fun hl3=>(h11.out hl.b).2 hl3.b⟩⟩,h12.k,h13.k,⟨fun _=>rfl⟩,h15.k,h16.m,h17.m⟩
  refine StepsL.c 16 [14,14] (fun l f W hR hn hb K Q2 hK=>?_) ?_
  ·obtain ⟨hS,h0,h1,h2,h3,h4,h5,h6,h7,h8,h9,h10,h11,h12,h13,h14,h15,h16,h17⟩:=hR
   have q14:=h14.out (hb 14 (by simp))
   clear hb
   refine ⟨?_⟩
   simp only [pfs] at hK⊢
   (try simp only [q14] at hK)
   have hmk:=hm3
   have hsz:=Nat.le_trans hz1 hS.1.size
   go_simp
   refine hK.out _ _ ⟨⟨hS.1.alloc (by omega) _,(heap_alloc_old _ _ (blk hS.2.1).2.2).trans hS.2.1,fun hn=>(heap_alloc_old _ _ (blk (hS.2.2.1 (fun h=>hn h.fwd))).2.2).trans (hS.2.2.1 (fun h=>hn h.fwd)),by simpa using hS.2.2.2⟩,h0.k,h1.k,h2.k,⟨fun hl=>(h3.out hl.b).alloc _⟩,h4.k,h5.k,h6.k,⟨fun hl=>(h7.out hl.b).alloc _⟩,h8.k,h9.k,h10.k,⟨fun hl=>⟨(h11.out hl.b).1.alloc _,fun hl3=>(h11.out hl.b).2 hl3.b⟩⟩,h12.k,h13.k,h14.k,⟨fun _=>⟨W.heap.size,rfl,hsz,heapAt _ _ _ rfl⟩⟩,⟨fun hl=>absurd (h16.out hl.b).1.2.2.2 hn⟩,⟨fun hl=>absurd (h17.out hl.b).1.2.2.2 hn⟩⟩
  refine StepsL.c 17 [3,7,11,15] (fun l f W hR hn hb K Q2 hK=>?_) ?_
  ·obtain ⟨hS,h0,h1,h2,h3,h4,h5,h6,h7,h8,h9,h10,h11,h12,h13,h14,h15,h16,h17⟩:=hR
   have q3:=h3.out (hb 3 (by simp))
   have q7:=h7.out (hb 7 (by simp))
   have q11:=h11.out (hb 11 (by simp))
   have q15:=h15.out (hb 15 (by simp))
   obtain ⟨b3,e3,_⟩:=q3
   obtain ⟨b7,e7,_⟩:=q7
   obtain ⟨⟨b11,e11,_⟩,_⟩:=q11
   obtain ⟨b15,e15,_⟩:=q15
   have L3:=hb 3 (by simp)
   have L7:=hb 7 (by simp)
   have L11:=hb 11 (by simp)
   have L15:=hb 15 (by simp)
   clear hb
   refine ⟨?_⟩
   simp only [pfs] at hK⊢
   (try simp only [e3,e7,e11,e15] at hK)
   go_simp
   refine hK.out _ _ ⟨⟨hS.1,hS.2.1,fun hn=>hS.2.2.1 fun h=>hn h.fwd,by simpa using hS.2.2.2⟩,h0.k,h1.k,h2.k,h3.k,h4.k,h5.k,h6.k,h7.k,h8.k,h9.k,h10.k,⟨fun hl=>⟨(h11.out hl.b).1,fun hl3=>(h11.out hl.b).2 hl3.b⟩⟩,h12.k,h13.k,h14.k,h15.k,⟨fun _=>⟨⟨L3.fwd,L7.fwd,L11.fwd,L15.fwd⟩,by simp [upd,e3,e7,e11,e15]⟩⟩,h17.m⟩
  refine StepsL.c 18 [16,0,1,2,3,4,5,6,7,8,9,10,11,12,13,14,15,16] (fun l f W hR hn hb K Q2 hK=>?_) ?_
  ·obtain ⟨hS,h0,h1,h2,h3,h4,h5,h6,h7,h8,h9,h10,h11,h12,h13,h14,h15,h16,h17⟩:=hR
   have q0:=h0.out (hb 0 (by simp))
   have q1:=h1.out (hb 1 (by simp))
   have q2:=h2.out (hb 2 (by simp))
   have q3:=h3.out (hb 3 (by simp))
   have q4:=h4.out (hb 4 (by simp))
   have q5:=h5.out (hb 5 (by simp))
   have q6:=h6.out (hb 6 (by simp))
   have q7:=h7.out (hb 7 (by simp))
   have q8:=h8.out (hb 8 (by simp))
   have q9:=h9.out (hb 9 (by simp))
   have q10:=h10.out (hb 10 (by simp))
   have q11:=h11.out (hb 11 (by simp))
   have q12:=h12.out (hb 12 (by simp))
   have q13:=h13.out (hb 13 (by simp))
   have q14:=h14.out (hb 14 (by simp))
   have q15:=h15.out (hb 15 (by simp))
   have q16:=h16.out (hb 16 (by simp))
   obtain ⟨b3,e3,b3l,b3h⟩:=q3
   obtain ⟨b7,e7,b7l,b7h⟩:=q7
   obtain ⟨⟨b11,e11,b11l,b11h⟩,ne⟩:=q11
   obtain ⟨b15,e15,b15l,b15h⟩:=q15
   have q16:=q16.2
   rw [e3,e7,e11,e15] at q16
   have hd:=hS.2.2.1 hn
   have L3:=hb 3 (by simp)
   have L7:=hb 7 (by simp)
   have L11:=hb 11 (by simp)
   have L15:=hb 15 (by simp)
   clear hb
   refine ⟨?_⟩
   simp only [pfs] at hK⊢
   (try simp only [q0,q1,q2,q4,q5,q6,q8,q9,q10,q12,q13,q14,e3,e7,e11,e15,q16] at hK)
   obtain ⟨cD,fD,zD⟩:=blk hd
   go_simp
   refine hK.out undef _ ⟨⟨dom_below hS.1 (Nat.le_refl _),(dom_far (by omega)).trans hS.2.1,fun h=>absurd (Lst.self (by rw [hS.2.2.2];omega)) h,by simpa using hS.2.2.2⟩,h0.k,h1.k,h2.k,⟨fun hl=>(h3.out hl.b).keep fun b hb=>dom_far (by omega)⟩,h4.k,h5.k,h6.k,⟨fun hl=>(h7.out hl.b).keep fun b hb=>dom_far (by omega)⟩,h8.k,h9.k,h10.k,⟨fun hl=>⟨(h11.out hl.b).1.keep fun b hb=>dom_far (by omega),fun hl3=>(h11.out hl.b).2 hl3.b⟩⟩,h12.k,h13.k,h14.k,⟨fun hl=>(h15.out hl.b).keep fun b hb=>dom_far (by omega)⟩,h16.m,⟨fun _=>⟨⟨L3.fwd,L7.fwd,L11.fwd,L15.fwd⟩,by show _=some (Obj.cells #[_,f 6,_,f 10,f 14,f 18,_] _ _);rw [e3,e7,e11,e15];exact dom_set hd⟩⟩⟩
  exact StepsL.nil
 ·intro l f W hR hall
  obtain ⟨hS,h0,h1,h2,h3,h4,h5,h6,h7,h8,h9,h10,h11,h12,h13,h14,h15,h16,h17⟩:=hR
  have q0:=h0.out (hall 0 (by decide))
  have q1:=h1.out (hall 1 (by decide))
  have q2:=h2.out (hall 2 (by decide))
  have q3:=h3.out (hall 3 (by decide))
  have q4:=h4.out (hall 4 (by decide))
  have q5:=h5.out (hall 5 (by decide))
  have q6:=h6.out (hall 6 (by decide))
  have q7:=h7.out (hall 7 (by decide))
  have q8:=h8.out (hall 8 (by decide))
  have q9:=h9.out (hall 9 (by decide))
  have q10:=h10.out (hall 10 (by decide))
  have q11:=h11.out (hall 11 (by decide))
  have q12:=h12.out (hall 12 (by decide))
  have q13:=h13.out (hall 13 (by decide))
  have q14:=h14.out (hall 14 (by decide))
  have q15:=h15.out (hall 15 (by decide))
  have q16:=h16.out (hall 16 (by decide))
  have q17:=h17.out (hall 17 (by decide))
  clear h0 h1 h2 h3 h4 h5 h6 h7 h8 h9 h10 h11 h12 h13 h14 h15 h16 h17
  obtain ⟨b3,e3,b3l,b3h⟩:=q3
  obtain ⟨b7,e7,b7l,b7h⟩:=q7
  obtain ⟨⟨b11,e11,b11l,b11h⟩,ne⟩:=q11
  obtain ⟨b15,e15,b15l,b15h⟩:=q15
  have hne:b3≠b11:=by
   intro e
   have hl:c.tasks.length=c.owners.length:=by
    rw [e] at b3h
    rw [b3h] at b11h
    injection b11h with b11h;injection b11h with b11h
    have:=congrArg Array.size b11h
    simpa [madeCells] using this
   exact ne (hall 3 (by decide)) (by rw [e3,e11,e,hl])
  have hr:=q17.2
  rw [e3,e7,e11,e15] at hr
  obtain ⟨cr,fr,zr⟩:=blk hr
  have q16:=q16.2
  rw [e3,e7,e11,e15] at q16
  have hB:=hS.1
  clear q17 hS ne hall
  simp only [pfs]
  go_wp2_with fail
  refine bodyPost_ret (v:= .agg #[.slice none 0 0,.slice (some ⟨b3,0,none⟩) c.tasks.length c.tasks.length,.int .i64 0,.slice (some ⟨b7,0,none⟩) c.chans.length c.chans.length,.slice (some ⟨b11,0,none⟩) c.owners.length c.owners.length,.slice (some ⟨b15,0,none⟩) c.chans.length c.chans.length,.slice none 0 0]) (by simp [results,Tryd.results33,go_sem, *]) rfl ?_
  exact fresh_end hw1 hB (by omega) (by omega) (by omega) b3l b7l b11l b15l b3h b7h b11h b15h hne
end Go.Proofs.YtinlmkhlgclbfabDoor
