/- DomC -/
import Derived.Test.YtinlmkhlgclbfabWv15
namespace Go.Proofs.Ytinlmkhlgclbfab
open Go.RowKit
set_option maxRecDepth 100000
set_option maxHeartbeats 4000000
theorem refCopyDomain (d:TDom)(T:TDomS)(hb:DomSz d)(B:Nat)(w:World)(hB:B≤w.heap.size)(hd:TDom.At (Low B) w d T):
  Calls Try.prog 58 #[.agg #[.slice T.a0 d.jobs.length T.n0,.slice T.a1 d.released.length T.n1,.int .i64 d.next,.slice T.a2 d.ins.length T.n2,.slice T.a3 d.taken.length T.n3,.slice T.a4 d.outs.length T.n4,.slice T.a5 d.events.length T.n5]] w (RetDom d w):=by
 have hbd:=zH hb
 clear hb
 go_enter Try.func58,Try.ntmps58
 go_wp2_with fail
 have hz1:w.heap.size+2≤((w.alloc (.cells #[.slice T.a0 d.jobs.length T.n0,.slice T.a1 d.released.length T.n1,.int .i64 d.next,.slice T.a2 d.ins.length T.n2,.slice T.a3 d.taken.length T.n3,.slice T.a4 d.outs.length T.n4,.slice T.a5 d.events.length T.n5] 45)).alloc (.cells #[.slice none 0 0,.slice none 0 0,.int .i64 0,.slice none 0 0,.slice none 0 0,.slice none 0 0,.slice none 0 0] 45)).heap.size:=by simp
 have hw1b:Below w.heap.size w ((w.alloc (.cells #[.slice T.a0 d.jobs.length T.n0,.slice T.a1 d.released.length T.n1,.int .i64 d.next,.slice T.a2 d.ins.length T.n2,.slice T.a3 d.taken.length T.n3,.slice T.a4 d.outs.length T.n4,.slice T.a5 d.events.length T.n5] 45)).alloc (.cells #[.slice none 0 0,.slice none 0 0,.int .i64 0,.slice none 0 0,.slice none 0 0,.slice none 0 0,.slice none 0 0] 45)):=byB
 generalize hw1:(w.alloc (.cells #[.slice T.a0 d.jobs.length T.n0,.slice T.a1 d.released.length T.n1,.int .i64 d.next,.slice T.a2 d.ins.length T.n2,.slice T.a3 d.taken.length T.n3,.slice T.a4 d.outs.length T.n4,.slice T.a5 d.events.length T.n5] 45)).alloc (.cells #[.slice none 0 0,.slice none 0 0,.int .i64 0,.slice none 0 0,.slice none 0 0,.slice none 0 0,.slice none 0 0] 45)=w1 at hz1 hw1b⊢
 refine wp_region_inv [6,7,8,9,10,11,12,13,14,15,16,17,18,19,20,21,22,23,24,3] (fun l f W=>(Below (w.heap.size+2) w1 W∧W.heap[w.heap.size]?=some (.cells #[.slice T.a0 d.jobs.length T.n0,.slice T.a1 d.released.length T.n1,.int .i64 d.next,.slice T.a2 d.ins.length T.n2,.slice T.a3 d.taken.length T.n3,.slice T.a4 d.outs.length T.n4,.slice T.a5 d.events.length T.n5] 45)∧l.size=21)∧Fa l 0 (f 6= .pointer (some ⟨w.heap.size,2,none⟩))∧Fa l 1 (f 7= .int .i64 d.next)∧Fa l 2 (∃a,f 8= .slice (some a) 0 0)∧Fa l 3 (f 9= .pointer (some ⟨w.heap.size,0,none⟩))∧Fa l 4 (f 10= .slice T.a0 d.jobs.length T.n0)∧Fa l 5 (RzN (w.heap.size+2) W 110 6 (f 11) d.jobs.length (d.jobs.flatMap TJob.cells))∧Fa l 6 (∃a,f 12= .slice (some a) 0 0)∧Fa l 7 (f 13= .pointer (some ⟨w.heap.size,1,none⟩))∧Fa l 8 (f 14= .slice T.a1 d.released.length T.n1)∧Fa l 9 (RzN (w.heap.size+2) W 3 1 (f 15) d.released.length (d.released.flatMap fun n=>[Value.int .i64 n]))∧Fa l 10 (∃a,f 16= .slice (some a) 0 0)∧Fa l 11 (f 17= .pointer (some ⟨w.heap.size,4,none⟩))∧Fa l 12 (f 18= .slice T.a3 d.taken.length T.n3)∧Fa l 13 ((Lst l 9∧∀b,rowZ (f 19)=some b→rowZ (f 15)≠some b)∧RzN (w.heap.size+2) W 3 1 (f 19) d.taken.length (d.taken.flatMap fun n=>[Value.int .i64 n]))∧Fa l 14 (∃a,f 20= .slice (some a) 0 0)∧Fa l 15 (f 21= .pointer (some ⟨w.heap.size,6,none⟩))∧Fa l 16 (f 22= .slice T.a5 d.events.length T.n5)∧Fa l 17 (RzN (w.heap.size+2) W 84 4 (f 23) d.events.length (d.events.flatMap TEv.cells))∧Fa l 18 ((Lst l 5∧Lst l 9∧Lst l 13∧Lst l 17)∧f 24= .agg #[f 11,f 15,.int .i64 d.next,.slice none 0 0,f 19,.slice none 0 0,f 23])∧Fa l 19 (∃g,f 3= .pointer (some ⟨g,0,none⟩)∧w.heap.size+2≤g∧(¬ Lst l 20→W.heap[g]?=some (.cells #[.slice none 0 0,.slice none 0 0,.int .i64 0,.slice none 0 0,.slice none 0 0,.slice none 0 0,.slice none 0 0] 45))∧(Lst l 20→(Lst l 5∧Lst l 9∧Lst l 13∧Lst l 17)∧W.heap[g]?=some (.cells #[f 11,f 15,.int .i64 d.next,.slice none 0 0,f 19,.slice none 0 0,f 23] 45)))∧Fa l 20 (Lst l 19)) (by kernel_rfl) (by decide) (by kernel_rfl) (by intro s hs;simp at hs⊢;omega) ?_ ?_ ?_
 ·intro l hz hl
  exact ⟨⟨(Below.refl _ _).drew,by rw [← hw1];exact byH,hz⟩,.no (hl 0),.no (hl 1),.no (hl 2),.no (hl 3),.no (hl 4),.no (hl 5),.no (hl 6),.no (hl 7),.no (hl 8),.no (hl 9),.no (hl 10),.no (hl 11),.no (hl 12),.no (hl 13),.no (hl 14),.no (hl 15),.no (hl 16),.no (hl 17),.no (hl 18),.no (hl 19),.no (hl 20)⟩
 ·refine StepsL.c 1 [] (fun l f W hR hn hb K Q2 hK=>?_) ?_
  ·obtain ⟨hS,h0,h1,h2,h3,h4,h5,h6,h7,h8,h9,h10,h11,h12,h13,h14,h15,h16,h17,h18,h19,h20⟩:=hR
   clear hb
   refine ⟨?_⟩
   simp only [pfs] at hK⊢
   go_simp
   refine hK.out _ _ ⟨⟨hS.1,hS.2.1,by simpa using hS.2.2⟩,⟨fun _=>rfl⟩,h1.k,h2.k,h3.k,h4.k,h5.k,h6.k,h7.k,h8.k,h9.k,h10.k,h11.k,h12.k,h13.m,h14.k,h15.k,h16.k,h17.k,h18.m,⟨fun hl=>let ⟨g,a,b,c,e⟩:=(h19.out hl.b);⟨g,a,b,fun h=>c fun h2=>h h2.fwd,fun h=>⟨let q:=(e h.b).1;⟨q.1.fwd,q.2.1.fwd,q.2.2.1.fwd,q.2.2.2.fwd⟩,(e h.b).2⟩⟩⟩,h20.m⟩
  refine StepsL.c 2 [0] (fun l f W hR hn hb K Q2 hK=>?_) ?_
  ·obtain ⟨hS,h0,h1,h2,h3,h4,h5,h6,h7,h8,h9,h10,h11,h12,h13,h14,h15,h16,h17,h18,h19,h20⟩:=hR
   have q0:=h0.out (hb 0 (by simp))
   clear hb
   refine ⟨?_⟩
   simp only [pfs] at hK⊢
   (try simp only [q0] at hK)
   obtain ⟨cS,fS,zS⟩:=blk hS.2.1
   go_simp
   refine hK.out _ _ ⟨⟨hS.1,hS.2.1,by simpa using hS.2.2⟩,h0.k,⟨fun _=>rfl⟩,h2.k,h3.k,h4.k,h5.k,h6.k,h7.k,h8.k,h9.k,h10.k,h11.k,h12.k,h13.m,h14.k,h15.k,h16.k,h17.k,h18.m,⟨fun hl=>let ⟨g,a,b,c,e⟩:=(h19.out hl.b);⟨g,a,b,fun h=>c fun h2=>h h2.fwd,fun h=>⟨let q:=(e h.b).1;⟨q.1.fwd,q.2.1.fwd,q.2.2.1.fwd,q.2.2.2.fwd⟩,(e h.b).2⟩⟩⟩,h20.m⟩
  refine StepsL.c 3 [] (fun l f W hR hn hb K Q2 hK=>?_) ?_
  ·obtain ⟨hS,h0,h1,h2,h3,h4,h5,h6,h7,h8,h9,h10,h11,h12,h13,h14,h15,h16,h17,h18,h19,h20⟩:=hR
   clear hb
   refine ⟨?_⟩
   simp only [pfs] at hK⊢
   go_simp
   refine hK.out _ _ ⟨⟨hS.1.alloc (by have:=hS.1.size;omega) _,(Ext.alloc _ _).blk hS.2.1,by simpa using hS.2.2⟩,h0.k,h1.k,⟨fun _=>⟨_,rfl⟩⟩,h3.k,h4.k,⟨fun hl=>(h5.out hl.b).ext (Ext.alloc _ _)⟩,h6.k,h7.k,h8.k,⟨fun hl=>(h9.out hl.b).ext (Ext.alloc _ _)⟩,h10.k,h11.k,h12.k,⟨fun hl=>⟨⟨(h13.out hl.b).1.1.fwd,(h13.out hl.b).1.2⟩,(h13.out hl.b).2.ext (Ext.alloc _ _)⟩⟩,h14.k,h15.k,h16.k,⟨fun hl=>(h17.out hl.b).ext (Ext.alloc _ _)⟩,h18.m,⟨fun hl=>let ⟨g,a,b,c,e⟩:=(h19.out hl.b);⟨g,a,b,fun h=>(Ext.alloc _ _).blk (c fun h2=>h h2.fwd),fun h=>⟨let q:=(e h.b).1;⟨q.1.fwd,q.2.1.fwd,q.2.2.1.fwd,q.2.2.2.fwd⟩,(Ext.alloc _ _).blk (e h.b).2⟩⟩⟩,h20.m⟩
  refine StepsL.c 4 [] (fun l f W hR hn hb K Q2 hK=>?_) ?_
  ·obtain ⟨hS,h0,h1,h2,h3,h4,h5,h6,h7,h8,h9,h10,h11,h12,h13,h14,h15,h16,h17,h18,h19,h20⟩:=hR
   clear hb
   refine ⟨?_⟩
   simp only [pfs] at hK⊢
   go_simp
   refine hK.out _ _ ⟨⟨hS.1,hS.2.1,by simpa using hS.2.2⟩,h0.k,h1.k,h2.k,⟨fun _=>rfl⟩,h4.k,h5.k,h6.k,h7.k,h8.k,h9.k,h10.k,h11.k,h12.k,h13.m,h14.k,h15.k,h16.k,h17.k,h18.m,⟨fun hl=>let ⟨g,a,b,c,e⟩:=(h19.out hl.b);⟨g,a,b,fun h=>c fun h2=>h h2.fwd,fun h=>⟨let q:=(e h.b).1;⟨q.1.fwd,q.2.1.fwd,q.2.2.1.fwd,q.2.2.2.fwd⟩,(e h.b).2⟩⟩⟩,h20.m⟩
  refine StepsL.c 5 [3] (fun l f W hR hn hb K Q2 hK=>?_) ?_
  ·obtain ⟨hS,h0,h1,h2,h3,h4,h5,h6,h7,h8,h9,h10,h11,h12,h13,h14,h15,h16,h17,h18,h19,h20⟩:=hR
   have q3:=h3.out (hb 3 (by simp))
   clear hb
   refine ⟨?_⟩
   simp only [pfs] at hK⊢
   (try simp only [q3] at hK)
   obtain ⟨cS,fS,zS⟩:=blk hS.2.1
   go_simp
   refine hK.out _ _ ⟨⟨hS.1,hS.2.1,by simpa using hS.2.2⟩,h0.k,h1.k,h2.k,h3.k,⟨fun _=>rfl⟩,h5.k,h6.k,h7.k,h8.k,h9.k,h10.k,h11.k,h12.k,h13.m,h14.k,h15.k,h16.k,h17.k,h18.m,⟨fun hl=>let ⟨g,a,b,c,e⟩:=(h19.out hl.b);⟨g,a,b,fun h=>c fun h2=>h h2.fwd,fun h=>⟨let q:=(e h.b).1;⟨q.1.fwd,q.2.1.fwd,q.2.2.1.fwd,q.2.2.2.fwd⟩,(e h.b).2⟩⟩⟩,h20.m⟩
  refine StepsL.c 6 [2,4] (fun l f W hR hn hb K Q2 hK=>?_) ?_
  ·obtain ⟨hS,h0,h1,h2,h3,h4,h5,h6,h7,h8,h9,h10,h11,h12,h13,h14,h15,h16,h17,h18,h19,h20⟩:=hR
   have q2:=h2.out (hb 2 (by simp))
   have q4:=h4.out (hb 4 (by simp))
   obtain ⟨ra,re⟩:=q2
   have hsz:=hS.1.size
   have hsrc:=(hd.s0.next hB (hw1b.trans (hS.1.mono (by omega)))).src
   clear hb
   refine ⟨?_⟩
   simp only [pfs] at hK⊢
   (try simp only [q4,re] at hK)
   simp only [q4,re]
   refine wp_appZ (.tmp 8) (.tmp 10) _ rfl tyJob (.slice (some ra) 0 0) 0 [] (by rfl) (ownsZ.room _ _ _ _) T.a0 d.jobs.length T.n0 (d.jobs.flatMap TJob.cells) (by rfl) hsrc (one_job _) (by have:=Nat.le_trans hd.s0.cap hd.s0.max;omega) (by have:=hbd.out.jobs;omega) (fun A3 c3 w3 own3 gr3 at3=>?_)
   rw [rowZ_zero] at gr3 at3
   simp only [Nat.zero_add,List.nil_append] at own3 at3⊢
   simp only [Act.put,List.setIfInBounds_toArray,List.set_cons_zero,List.set_cons_succ]
   refine hK.out _ _ ⟨⟨hS.1.grown gr3 (by have:=hS.1.size;omega) (fun k hk=>by cases hk),(Ext.grown gr3).blk hS.2.1,by simpa using hS.2.2⟩,h0.k,h1.k,h2.k,h3.k,h4.k,⟨fun _=>⟨A3,c3,rfl,own3,fun b hb=>by rcases at3 b hb with e|e;cases e;exact ⟨by omega,ownZ_lt own3 b hb⟩⟩⟩,h6.k,h7.k,h8.k,⟨fun hl=>(h9.out hl.b).ext (Ext.grown gr3)⟩,h10.k,h11.k,h12.k,⟨fun hl=>⟨⟨(h13.out hl.b).1.1.fwd,(h13.out hl.b).1.2⟩,(h13.out hl.b).2.ext (Ext.grown gr3)⟩⟩,h14.k,h15.k,h16.k,⟨fun hl=>(h17.out hl.b).ext (Ext.grown gr3)⟩,⟨fun hl=>absurd (h18.out hl.b).1.1 hn⟩,⟨fun hl=>let ⟨g,a,b,c,e⟩:=(h19.out hl.b);⟨g,a,b,fun h=>(Ext.grown gr3).blk (c fun h2=>h h2.fwd),fun h=>absurd (e h.b).1.1 hn⟩⟩,h20.m⟩
  refine StepsL.c 7 [] (fun l f W hR hn hb K Q2 hK=>?_) ?_
  ·obtain ⟨hS,h0,h1,h2,h3,h4,h5,h6,h7,h8,h9,h10,h11,h12,h13,h14,h15,h16,h17,h18,h19,h20⟩:=hR
   clear hb
   refine ⟨?_⟩
   simp only [pfs] at hK⊢
   go_simp
   refine hK.out _ _ ⟨⟨hS.1.alloc (by have:=hS.1.size;omega) _,(Ext.alloc _ _).blk hS.2.1,by simpa using hS.2.2⟩,h0.k,h1.k,h2.k,h3.k,h4.k,⟨fun hl=>(h5.out hl.b).ext (Ext.alloc _ _)⟩,⟨fun _=>⟨_,rfl⟩⟩,h7.k,h8.k,⟨fun hl=>(h9.out hl.b).ext (Ext.alloc _ _)⟩,h10.k,h11.k,h12.k,⟨fun hl=>⟨⟨(h13.out hl.b).1.1.fwd,(h13.out hl.b).1.2⟩,(h13.out hl.b).2.ext (Ext.alloc _ _)⟩⟩,h14.k,h15.k,h16.k,⟨fun hl=>(h17.out hl.b).ext (Ext.alloc _ _)⟩,h18.m,⟨fun hl=>let ⟨g,a,b,c,e⟩:=(h19.out hl.b);⟨g,a,b,fun h=>(Ext.alloc _ _).blk (c fun h2=>h h2.fwd),fun h=>⟨let q:=(e h.b).1;⟨q.1.fwd,q.2.1.fwd,q.2.2.1.fwd,q.2.2.2.fwd⟩,(Ext.alloc _ _).blk (e h.b).2⟩⟩⟩,h20.m⟩
  refine StepsL.c 8 [] (fun l f W hR hn hb K Q2 hK=>?_) ?_
  ·obtain ⟨hS,h0,h1,h2,h3,h4,h5,h6,h7,h8,h9,h10,h11,h12,h13,h14,h15,h16,h17,h18,h19,h20⟩:=hR
   clear hb
   refine ⟨?_⟩
   simp only [pfs] at hK⊢
   go_simp
   refine hK.out _ _ ⟨⟨hS.1,hS.2.1,by simpa using hS.2.2⟩,h0.k,h1.k,h2.k,h3.k,h4.k,h5.k,h6.k,⟨fun _=>rfl⟩,h8.k,h9.k,h10.k,h11.k,h12.k,h13.m,h14.k,h15.k,h16.k,h17.k,h18.m,⟨fun hl=>let ⟨g,a,b,c,e⟩:=(h19.out hl.b);⟨g,a,b,fun h=>c fun h2=>h h2.fwd,fun h=>⟨let q:=(e h.b).1;⟨q.1.fwd,q.2.1.fwd,q.2.2.1.fwd,q.2.2.2.fwd⟩,(e h.b).2⟩⟩⟩,h20.m⟩
  refine StepsL.c 9 [7] (fun l f W hR hn hb K Q2 hK=>?_) ?_
  ·obtain ⟨hS,h0,h1,h2,h3,h4,h5,h6,h7,h8,h9,h10,h11,h12,h13,h14,h15,h16,h17,h18,h19,h20⟩:=hR
   have q7:=h7.out (hb 7 (by simp))
   clear hb
   refine ⟨?_⟩
   simp only [pfs] at hK⊢
   (try simp only [q7] at hK)
   obtain ⟨cS,fS,zS⟩:=blk hS.2.1
   go_simp
   refine hK.out _ _ ⟨⟨hS.1,hS.2.1,by simpa using hS.2.2⟩,h0.k,h1.k,h2.k,h3.k,h4.k,h5.k,h6.k,h7.k,⟨fun _=>rfl⟩,h9.k,h10.k,h11.k,h12.k,h13.m,h14.k,h15.k,h16.k,h17.k,h18.m,⟨fun hl=>let ⟨g,a,b,c,e⟩:=(h19.out hl.b);⟨g,a,b,fun h=>c fun h2=>h h2.fwd,fun h=>⟨let q:=(e h.b).1;⟨q.1.fwd,q.2.1.fwd,q.2.2.1.fwd,q.2.2.2.fwd⟩,(e h.b).2⟩⟩⟩,h20.m⟩
  refine StepsL.c 10 [6,8,5] (fun l f W hR hn hb K Q2 hK=>?_) ?_
  ·obtain ⟨hS,h0,h1,h2,h3,h4,h5,h6,h7,h8,h9,h10,h11,h12,h13,h14,h15,h16,h17,h18,h19,h20⟩:=hR
   have q5:=h5.out (hb 5 (by simp))
   have q6:=h6.out (hb 6 (by simp))
   have q8:=h8.out (hb 8 (by simp))
   obtain ⟨ra,re⟩:=q6
   have hsz:=hS.1.size
   have hsrc:=(hd.s1.next hB (hw1b.trans (hS.1.mono (by omega)))).src
   clear hb
   refine ⟨?_⟩
   simp only [pfs] at hK⊢
   (try simp only [q8,re] at hK)
   simp only [q8,re]
   refine wp_appZ (.tmp 12) (.tmp 14) _ rfl tyInt (.slice (some ra) 0 0) 0 [] (by rfl) (ownsZ.room _ _ _ _) T.a1 d.released.length T.n1 (d.released.flatMap fun n=>[Value.int .i64 n]) (by rfl) hsrc (one_int _) (by have:=Nat.le_trans hd.s1.cap hd.s1.max;omega) (by have:=hbd.out.rel;omega) (fun A3 c3 w3 own3 gr3 at3=>?_)
   rw [rowZ_zero] at gr3 at3
   simp only [Nat.zero_add,List.nil_append] at own3 at3⊢
   simp only [Act.put,List.setIfInBounds_toArray,List.set_cons_zero,List.set_cons_succ]
   refine hK.out _ _ ⟨⟨hS.1.grown gr3 (by have:=hS.1.size;omega) (fun k hk=>by cases hk),(Ext.grown gr3).blk hS.2.1,by simpa using hS.2.2⟩,h0.k,h1.k,h2.k,h3.k,h4.k,⟨fun hl=>(h5.out hl.b).ext (Ext.grown gr3)⟩,h6.k,h7.k,h8.k,⟨fun _=>⟨A3,c3,rfl,own3,fun b hb=>by rcases at3 b hb with e|e;cases e;exact ⟨by omega,ownZ_lt own3 b hb⟩⟩⟩,h10.k,h11.k,h12.k,⟨fun hl=>⟨⟨(h13.out hl.b).1.1.fwd,absurd (h13.out hl.b).1.1 hn⟩,(h13.out hl.b).2.ext (Ext.grown gr3)⟩⟩,h14.k,h15.k,h16.k,⟨fun hl=>(h17.out hl.b).ext (Ext.grown gr3)⟩,⟨fun hl=>absurd (h18.out hl.b).1.2.1 hn⟩,⟨fun hl=>let ⟨g,a,b,c,e⟩:=(h19.out hl.b);⟨g,a,b,fun h=>(Ext.grown gr3).blk (c fun h2=>h h2.fwd),fun h=>absurd (e h.b).1.2.1 hn⟩⟩,h20.m⟩
  refine StepsL.c 11 [] (fun l f W hR hn hb K Q2 hK=>?_) ?_
  ·obtain ⟨hS,h0,h1,h2,h3,h4,h5,h6,h7,h8,h9,h10,h11,h12,h13,h14,h15,h16,h17,h18,h19,h20⟩:=hR
   clear hb
   refine ⟨?_⟩
   simp only [pfs] at hK⊢
   go_simp
   refine hK.out _ _ ⟨⟨hS.1.alloc (by have:=hS.1.size;omega) _,(Ext.alloc _ _).blk hS.2.1,by simpa using hS.2.2⟩,h0.k,h1.k,h2.k,h3.k,h4.k,⟨fun hl=>(h5.out hl.b).ext (Ext.alloc _ _)⟩,h6.k,h7.k,h8.k,⟨fun hl=>(h9.out hl.b).ext (Ext.alloc _ _)⟩,⟨fun _=>⟨_,rfl⟩⟩,h11.k,h12.k,⟨fun hl=>⟨⟨(h13.out hl.b).1.1.fwd,(h13.out hl.b).1.2⟩,(h13.out hl.b).2.ext (Ext.alloc _ _)⟩⟩,h14.k,h15.k,h16.k,⟨fun hl=>(h17.out hl.b).ext (Ext.alloc _ _)⟩,h18.m,⟨fun hl=>let ⟨g,a,b,c,e⟩:=(h19.out hl.b);⟨g,a,b,fun h=>(Ext.alloc _ _).blk (c fun h2=>h h2.fwd),fun h=>⟨let q:=(e h.b).1;⟨q.1.fwd,q.2.1.fwd,q.2.2.1.fwd,q.2.2.2.fwd⟩,(Ext.alloc _ _).blk (e h.b).2⟩⟩⟩,h20.m⟩
  refine StepsL.c 12 [] (fun l f W hR hn hb K Q2 hK=>?_) ?_
  ·obtain ⟨hS,h0,h1,h2,h3,h4,h5,h6,h7,h8,h9,h10,h11,h12,h13,h14,h15,h16,h17,h18,h19,h20⟩:=hR
   clear hb
   refine ⟨?_⟩
   simp only [pfs] at hK⊢
   go_simp
   refine hK.out _ _ ⟨⟨hS.1,hS.2.1,by simpa using hS.2.2⟩,h0.k,h1.k,h2.k,h3.k,h4.k,h5.k,h6.k,h7.k,h8.k,h9.k,h10.k,⟨fun _=>rfl⟩,h12.k,h13.m,h14.k,h15.k,h16.k,h17.k,h18.m,⟨fun hl=>let ⟨g,a,b,c,e⟩:=(h19.out hl.b);⟨g,a,b,fun h=>c fun h2=>h h2.fwd,fun h=>⟨let q:=(e h.b).1;⟨q.1.fwd,q.2.1.fwd,q.2.2.1.fwd,q.2.2.2.fwd⟩,(e h.b).2⟩⟩⟩,h20.m⟩
  refine StepsL.c 13 [11] (fun l f W hR hn hb K Q2 hK=>?_) ?_
  ·obtain ⟨hS,h0,h1,h2,h3,h4,h5,h6,h7,h8,h9,h10,h11,h12,h13,h14,h15,h16,h17,h18,h19,h20⟩:=hR
   have q11:=h11.out (hb 11 (by simp))
   clear hb
   refine ⟨?_⟩
   simp only [pfs] at hK⊢
   (try simp only [q11] at hK)
   obtain ⟨cS,fS,zS⟩:=blk hS.2.1
   go_simp
   refine hK.out _ _ ⟨⟨hS.1,hS.2.1,by simpa using hS.2.2⟩,h0.k,h1.k,h2.k,h3.k,h4.k,h5.k,h6.k,h7.k,h8.k,h9.k,h10.k,h11.k,⟨fun _=>rfl⟩,h13.m,h14.k,h15.k,h16.k,h17.k,h18.m,⟨fun hl=>let ⟨g,a,b,c,e⟩:=(h19.out hl.b);⟨g,a,b,fun h=>c fun h2=>h h2.fwd,fun h=>⟨let q:=(e h.b).1;⟨q.1.fwd,q.2.1.fwd,q.2.2.1.fwd,q.2.2.2.fwd⟩,(e h.b).2⟩⟩⟩,h20.m⟩
  refine StepsL.c 14 [10,12,9] (fun l f W hR hn hb K Q2 hK=>?_) ?_
  ·obtain ⟨hS,h0,h1,h2,h3,h4,h5,h6,h7,h8,h9,h10,h11,h12,h13,h14,h15,h16,h17,h18,h19,h20⟩:=hR
   have q9:=h9.out (hb 9 (by simp))
   have q10:=h10.out (hb 10 (by simp))
   have q12:=h12.out (hb 12 (by simp))
   have hb9:=hb 9 (by simp)
   obtain ⟨ra,re⟩:=q10
   have hsz:=hS.1.size
   have hsrc:=(hd.s3.next hB (hw1b.trans (hS.1.mono (by omega)))).src
   have L9:=hb9
   clear hb
   refine ⟨?_⟩
   simp only [pfs] at hK⊢
   (try simp only [q12,re] at hK)
   simp only [q12,re]
   refine wp_appZ (.tmp 16) (.tmp 18) _ rfl tyInt (.slice (some ra) 0 0) 0 [] (by rfl) (ownsZ.room _ _ _ _) T.a3 d.taken.length T.n3 (d.taken.flatMap fun n=>[Value.int .i64 n]) (by rfl) hsrc (one_int _) (by have:=Nat.le_trans hd.s3.cap hd.s3.max;omega) (by have:=hbd.out.taken;omega) (fun A3 c3 w3 own3 gr3 at3=>?_)
   rw [rowZ_zero] at gr3 at3
   simp only [Nat.zero_add,List.nil_append] at own3 at3⊢
   simp only [Act.put,List.setIfInBounds_toArray,List.set_cons_zero,List.set_cons_succ]
   refine hK.out _ _ ⟨⟨hS.1.grown gr3 (by have:=hS.1.size;omega) (fun k hk=>by cases hk),(Ext.grown gr3).blk hS.2.1,by simpa using hS.2.2⟩,h0.k,h1.k,h2.k,h3.k,h4.k,⟨fun hl=>(h5.out hl.b).ext (Ext.grown gr3)⟩,h6.k,h7.k,h8.k,⟨fun hl=>(h9.out hl.b).ext (Ext.grown gr3)⟩,h10.k,h11.k,h12.k,⟨fun _=>⟨⟨L9.fwd,fun b hb hb2=>by rcases at3 b hb with e|e;cases e;exact absurd (q9.lt b hb2) (by omega)⟩,⟨A3,c3,rfl,own3,fun b hb=>by rcases at3 b hb with e|e;cases e;exact ⟨by omega,ownZ_lt own3 b hb⟩⟩⟩⟩,h14.k,h15.k,h16.k,⟨fun hl=>(h17.out hl.b).ext (Ext.grown gr3)⟩,⟨fun hl=>absurd (h18.out hl.b).1.2.2.1 hn⟩,⟨fun hl=>let ⟨g,a,b,c,e⟩:=(h19.out hl.b);⟨g,a,b,fun h=>(Ext.grown gr3).blk (c fun h2=>h h2.fwd),fun h=>absurd (e h.b).1.2.2.1 hn⟩⟩,h20.m⟩
  refine StepsL.c 15 [] (fun l f W hR hn hb K Q2 hK=>?_) ?_
  ·obtain ⟨hS,h0,h1,h2,h3,h4,h5,h6,h7,h8,h9,h10,h11,h12,h13,h14,h15,h16,h17,h18,h19,h20⟩:=hR
   clear hb
   refine ⟨?_⟩
   simp only [pfs] at hK⊢
   go_simp
   refine hK.out _ _ ⟨⟨hS.1.alloc (by have:=hS.1.size;omega) _,(Ext.alloc _ _).blk hS.2.1,by simpa using hS.2.2⟩,h0.k,h1.k,h2.k,h3.k,h4.k,⟨fun hl=>(h5.out hl.b).ext (Ext.alloc _ _)⟩,h6.k,h7.k,h8.k,⟨fun hl=>(h9.out hl.b).ext (Ext.alloc _ _)⟩,h10.k,h11.k,h12.k,⟨fun hl=>⟨⟨(h13.out hl.b).1.1.fwd,(h13.out hl.b).1.2⟩,(h13.out hl.b).2.ext (Ext.alloc _ _)⟩⟩,⟨fun _=>⟨_,rfl⟩⟩,h15.k,h16.k,⟨fun hl=>(h17.out hl.b).ext (Ext.alloc _ _)⟩,h18.m,⟨fun hl=>let ⟨g,a,b,c,e⟩:=(h19.out hl.b);⟨g,a,b,fun h=>(Ext.alloc _ _).blk (c fun h2=>h h2.fwd),fun h=>⟨let q:=(e h.b).1;⟨q.1.fwd,q.2.1.fwd,q.2.2.1.fwd,q.2.2.2.fwd⟩,(Ext.alloc _ _).blk (e h.b).2⟩⟩⟩,h20.m⟩
  refine StepsL.c 16 [] (fun l f W hR hn hb K Q2 hK=>?_) ?_
  ·obtain ⟨hS,h0,h1,h2,h3,h4,h5,h6,h7,h8,h9,h10,h11,h12,h13,h14,h15,h16,h17,h18,h19,h20⟩:=hR
   clear hb
   refine ⟨?_⟩
   simp only [pfs] at hK⊢
   go_simp
   refine hK.out _ _ ⟨⟨hS.1,hS.2.1,by simpa using hS.2.2⟩,h0.k,h1.k,h2.k,h3.k,h4.k,h5.k,h6.k,h7.k,h8.k,h9.k,h10.k,h11.k,h12.k,h13.m,h14.k,⟨fun _=>rfl⟩,h16.k,h17.k,h18.m,⟨fun hl=>let ⟨g,a,b,c,e⟩:=(h19.out hl.b);⟨g,a,b,fun h=>c fun h2=>h h2.fwd,fun h=>⟨let q:=(e h.b).1;⟨q.1.fwd,q.2.1.fwd,q.2.2.1.fwd,q.2.2.2.fwd⟩,(e h.b).2⟩⟩⟩,h20.m⟩
  refine StepsL.c 17 [15] (fun l f W hR hn hb K Q2 hK=>?_) ?_
  ·obtain ⟨hS,h0,h1,h2,h3,h4,h5,h6,h7,h8,h9,h10,h11,h12,h13,h14,h15,h16,h17,h18,h19,h20⟩:=hR
   have q15:=h15.out (hb 15 (by simp))
   clear hb
   refine ⟨?_⟩
   simp only [pfs] at hK⊢
   (try simp only [q15] at hK)
   obtain ⟨cS,fS,zS⟩:=blk hS.2.1
   go_simp
   refine hK.out _ _ ⟨⟨hS.1,hS.2.1,by simpa using hS.2.2⟩,h0.k,h1.k,h2.k,h3.k,h4.k,h5.k,h6.k,h7.k,h8.k,h9.k,h10.k,h11.k,h12.k,h13.m,h14.k,h15.k,⟨fun _=>rfl⟩,h17.k,h18.m,⟨fun hl=>let ⟨g,a,b,c,e⟩:=(h19.out hl.b);⟨g,a,b,fun h=>c fun h2=>h h2.fwd,fun h=>⟨let q:=(e h.b).1;⟨q.1.fwd,q.2.1.fwd,q.2.2.1.fwd,q.2.2.2.fwd⟩,(e h.b).2⟩⟩⟩,h20.m⟩
  refine StepsL.c 18 [14,16,13] (fun l f W hR hn hb K Q2 hK=>?_) ?_
  ·obtain ⟨hS,h0,h1,h2,h3,h4,h5,h6,h7,h8,h9,h10,h11,h12,h13,h14,h15,h16,h17,h18,h19,h20⟩:=hR
   have q13:=h13.out (hb 13 (by simp))
   have q14:=h14.out (hb 14 (by simp))
   have q16:=h16.out (hb 16 (by simp))
   obtain ⟨ra,re⟩:=q14
   have hsz:=hS.1.size
   have hsrc:=(hd.s5.next hB (hw1b.trans (hS.1.mono (by omega)))).src
   clear hb
   refine ⟨?_⟩
   simp only [pfs] at hK⊢
   (try simp only [q16,re] at hK)
   simp only [q16,re]
   refine wp_appZ (.tmp 20) (.tmp 22) _ rfl tyEv (.slice (some ra) 0 0) 0 [] (by rfl) (ownsZ.room _ _ _ _) T.a5 d.events.length T.n5 (d.events.flatMap TEv.cells) (by rfl) hsrc (one_ev _) (by have:=Nat.le_trans hd.s5.cap hd.s5.max;omega) (by have:=hbd.out.ev;omega) (fun A3 c3 w3 own3 gr3 at3=>?_)
   rw [rowZ_zero] at gr3 at3
   simp only [Nat.zero_add,List.nil_append] at own3 at3⊢
   simp only [Act.put,List.setIfInBounds_toArray,List.set_cons_zero,List.set_cons_succ]
   refine hK.out _ _ ⟨⟨hS.1.grown gr3 (by have:=hS.1.size;omega) (fun k hk=>by cases hk),(Ext.grown gr3).blk hS.2.1,by simpa using hS.2.2⟩,h0.k,h1.k,h2.k,h3.k,h4.k,⟨fun hl=>(h5.out hl.b).ext (Ext.grown gr3)⟩,h6.k,h7.k,h8.k,⟨fun hl=>(h9.out hl.b).ext (Ext.grown gr3)⟩,h10.k,h11.k,h12.k,⟨fun hl=>⟨⟨(h13.out hl.b).1.1.fwd,(h13.out hl.b).1.2⟩,(h13.out hl.b).2.ext (Ext.grown gr3)⟩⟩,h14.k,h15.k,h16.k,⟨fun _=>⟨A3,c3,rfl,own3,fun b hb=>by rcases at3 b hb with e|e;cases e;exact ⟨by omega,ownZ_lt own3 b hb⟩⟩⟩,⟨fun hl=>absurd (h18.out hl.b).1.2.2.2 hn⟩,⟨fun hl=>let ⟨g,a,b,c,e⟩:=(h19.out hl.b);⟨g,a,b,fun h=>(Ext.grown gr3).blk (c fun h2=>h h2.fwd),fun h=>absurd (e h.b).1.2.2.2 hn⟩⟩,h20.m⟩
  refine StepsL.c 19 [1,5,9,13,17] (fun l f W hR hn hb K Q2 hK=>?_) ?_
  ·obtain ⟨hS,h0,h1,h2,h3,h4,h5,h6,h7,h8,h9,h10,h11,h12,h13,h14,h15,h16,h17,h18,h19,h20⟩:=hR
   have q1:=h1.out (hb 1 (by simp))
   have q5:=h5.out (hb 5 (by simp))
   have q9:=h9.out (hb 9 (by simp))
   have q13:=h13.out (hb 13 (by simp))
   have q17:=h17.out (hb 17 (by simp))
   have hb1:=hb 1 (by simp)
   have hb5:=hb 5 (by simp)
   have hb9:=hb 9 (by simp)
   have hb13:=hb 13 (by simp)
   have hb17:=hb 17 (by simp)
   have L5:=hb5
   have L9:=hb9
   have L13:=hb13
   have L17:=hb17
   obtain ⟨A5,c5,e5,_,_⟩:=q5
   obtain ⟨A9,c9,e9,_,_⟩:=q9
   obtain ⟨A13,c13,e13,_,_⟩:=q13.2
   obtain ⟨A17,c17,e17,_,_⟩:=q17
   clear hb
   refine ⟨?_⟩
   simp only [pfs] at hK⊢
   (try simp only [q1,e5,e9,e13,e17] at hK)
   go_simp
   refine hK.out _ _ ⟨⟨hS.1,hS.2.1,by simpa using hS.2.2⟩,h0.k,h1.k,h2.k,h3.k,h4.k,h5.k,h6.k,h7.k,h8.k,h9.k,h10.k,h11.k,h12.k,h13.m,h14.k,h15.k,h16.k,h17.k,⟨fun _=>⟨⟨L5.fwd,L9.fwd,L13.fwd,L17.fwd⟩,by simp [upd,e5,e9,e13,e17]⟩⟩,⟨fun hl=>let ⟨g,a,b,c,e⟩:=(h19.out hl.b);⟨g,a,b,fun h=>c fun h2=>h h2.fwd,fun h=>⟨let q:=(e h.b).1;⟨q.1.fwd,q.2.1.fwd,q.2.2.1.fwd,q.2.2.2.fwd⟩,(e h.b).2⟩⟩⟩,h20.m⟩
  refine StepsL.c 20 [] (fun l f W hR hn hb K Q2 hK=>?_) ?_
  ·obtain ⟨hS,h0,h1,h2,h3,h4,h5,h6,h7,h8,h9,h10,h11,h12,h13,h14,h15,h16,h17,h18,h19,h20⟩:=hR
   have hsz:=hS.1.size
   clear hb
   refine ⟨?_⟩
   simp only [pfs] at hK⊢
   go_simp
   refine hK.out _ _ ⟨⟨hS.1.alloc (by have:=hS.1.size;omega) _,(Ext.alloc _ _).blk hS.2.1,by simpa using hS.2.2⟩,h0.k,h1.k,h2.k,h3.k,h4.k,⟨fun hl=>(h5.out hl.b).ext (Ext.alloc _ _)⟩,h6.k,h7.k,h8.k,⟨fun hl=>(h9.out hl.b).ext (Ext.alloc _ _)⟩,h10.k,h11.k,h12.k,⟨fun hl=>⟨⟨(h13.out hl.b).1.1.fwd,(h13.out hl.b).1.2⟩,(h13.out hl.b).2.ext (Ext.alloc _ _)⟩⟩,h14.k,h15.k,h16.k,⟨fun hl=>(h17.out hl.b).ext (Ext.alloc _ _)⟩,h18.m,⟨fun _=>⟨W.heap.size,rfl,by omega,fun _=>heapAt _ _ _ rfl,fun h=>absurd (h20.out h.b) (fun h=>hn h)⟩⟩,h20.m⟩
  refine StepsL.c 21 [19,18,17,0,1,2,3,4,5,6,7,8,9,10,11,12,13,14,15,16,17,18,19] (fun l f W hR hn hb K Q2 hK=>?_) ?_
  ·obtain ⟨hS,h0,h1,h2,h3,h4,h5,h6,h7,h8,h9,h10,h11,h12,h13,h14,h15,h16,h17,h18,h19,h20⟩:=hR
   have q0:=h0.out (hb 0 (by simp))
   have q1:=h1.out (hb 1 (by simp))
   have q2:=h2.out (hb 2 (by simp))
   have q3:=h3.out (hb 3 (by simp))
   have q4:=h4.out (hb 4 (by simp))
   have q5:=h5.out (hb 5 (by simp))
   have q6:=h6.out (hb 6 (by simp))
   have q7:=h7.out (hb 7 (by simp))
   have q8:=h8.out (hb 8 (by simp))
   have q9:=h9.out (hb 9 (by simp))
   have q10:=h10.out (hb 10 (by simp))
   have q11:=h11.out (hb 11 (by simp))
   have q12:=h12.out (hb 12 (by simp))
   have q13:=h13.out (hb 13 (by simp))
   have q14:=h14.out (hb 14 (by simp))
   have q15:=h15.out (hb 15 (by simp))
   have q16:=h16.out (hb 16 (by simp))
   have q17:=h17.out (hb 17 (by simp))
   have q18:=h18.out (hb 18 (by simp))
   have q19:=h19.out (hb 19 (by simp))
   have hb1:=hb 1 (by simp)
   have hb5:=hb 5 (by simp)
   have hb9:=hb 9 (by simp)
   have hb13:=hb 13 (by simp)
   have hb17:=hb 17 (by simp)
   have hb19:=hb 19 (by simp)
   have L5:=hb5
   have L9:=hb9
   have L13:=hb13
   have L17:=hb17
   obtain ⟨A5,c5,e5,_,_⟩:=q5
   obtain ⟨A9,c9,e9,_,_⟩:=q9
   obtain ⟨A13,c13,e13,_,_⟩:=q13.2
   obtain ⟨A17,c17,e17,_,_⟩:=q17
   have q18:=q18.2
   rw [e5,e9,e13,e17] at q18
   obtain ⟨g,eg,gl,hg,_⟩:=q19
   have hg:=hg hn
   have L19:=hb19
   have hsz:=hS.1.size
   clear hb
   refine ⟨?_⟩
   simp only [pfs] at hK⊢
   (try simp only [q0,q1,q3,q4,q7,q8,q11,q12,q15,q16,e5,e9,e13,e17,eg,q18] at hK)
   obtain ⟨cD,fD,zD⟩:=blk hg
   go_simp
   refine hK.out undef _ ⟨⟨dom_below hS.1 (by omega),(dom_far (by omega)).trans hS.2.1,by simpa using hS.2.2⟩,h0.k,h1.k,h2.k,h3.k,h4.k,⟨fun hl=>(h5.out hl.b).dom hg (by decide)⟩,h6.k,h7.k,h8.k,⟨fun hl=>(h9.out hl.b).dom hg (by decide)⟩,h10.k,h11.k,h12.k,⟨fun hl=>⟨⟨(h13.out hl.b).1.1.fwd,(h13.out hl.b).1.2⟩,(h13.out hl.b).2.dom hg (by decide)⟩⟩,h14.k,h15.k,h16.k,⟨fun hl=>(h17.out hl.b).dom hg (by decide)⟩,h18.m,⟨fun hl=>⟨g,eg,gl,fun h=>absurd (Lst.self (by rw [hS.2.2];omega)) h,fun _=>⟨⟨L5.fwd,L9.fwd,L13.fwd,L17.fwd⟩,by show _=some (Obj.cells #[f 11,f 15,_,_,f 19,_,f 23] _ _);rw [e5,e9,e13,e17];exact dom_set hg⟩⟩⟩,⟨fun _=>L19.fwd⟩⟩
  exact StepsL.nil
 ·intro l f W hR hall
  obtain ⟨hS,h0,h1,h2,h3,h4,h5,h6,h7,h8,h9,h10,h11,h12,h13,h14,h15,h16,h17,h18,h19,h20⟩:=hR
  have q0:=h0.out (hall 0 (by decide))
  have q1:=h1.out (hall 1 (by decide))
  have q2:=h2.out (hall 2 (by decide))
  have q3:=h3.out (hall 3 (by decide))
  have q4:=h4.out (hall 4 (by decide))
  have q5:=h5.out (hall 5 (by decide))
  have q6:=h6.out (hall 6 (by decide))
  have q7:=h7.out (hall 7 (by decide))
  have q8:=h8.out (hall 8 (by decide))
  have q9:=h9.out (hall 9 (by decide))
  have q10:=h10.out (hall 10 (by decide))
  have q11:=h11.out (hall 11 (by decide))
  have q12:=h12.out (hall 12 (by decide))
  have q13:=h13.out (hall 13 (by decide))
  have q14:=h14.out (hall 14 (by decide))
  have q15:=h15.out (hall 15 (by decide))
  have q16:=h16.out (hall 16 (by decide))
  have q17:=h17.out (hall 17 (by decide))
  have q18:=h18.out (hall 18 (by decide))
  have q19:=h19.out (hall 19 (by decide))
  have q20:=h20.out (hall 20 (by decide))
  clear h0 h1 h2 h3 h4 h5 h6 h7 h8 h9 h10 h11 h12 h13 h14 h15 h16 h17 h18 h19 h20
  obtain ⟨A0,c0,e5,o5,r5⟩:=q5
  obtain ⟨A1,c1,e9,o9,r9⟩:=q9
  obtain ⟨⟨_,hne13⟩,A3,c3,e13,o13,r13⟩:=q13
  obtain ⟨A5,c5,e17,o17,r17⟩:=q17
  obtain ⟨g,eg,gl,_,hg⟩:=q19
  have hg:=(hg (hall 20 (by decide))).2
  have q18:=q18.2
  rw [e5,e9,e13,e17] at hg q18
  rw [e5] at o5 r5
  rw [e9] at o9 r9 hne13
  rw [e13] at o13 r13 hne13
  rw [e17] at o17 r17
  have hbox:=hS.2.1
  have hgW:=(blk hg).2.2
  have hres:W.heap[w.heap.size+1]?=some (.cells #[.slice none 0 0,.slice none 0 0,.int .i64 0,.slice none 0 0,.slice none 0 0,.slice none 0 0,.slice none 0 0] 45):=(hS.1.block _ (by omega)).trans (by rw [← hw1];exact byH)
  have hBW:Below w.heap.size w W:=hw1b.trans (hS.1.mono (by omega))
  simp only [putF,Act.put,List.setIfInBounds_toArray,List.set_cons_zero,List.set_cons_succ,e5,e9,e13,e17,eg,q18]
  clear q0 q1 q2 q3 q4 q6 q7 q8 q10 q11 q12 q14 q15 q16 q18 q20 e5 e9 e13 e17 eg hall hS hw1b hz1 hw1
  clear w1
  obtain ⟨x0,k0,x1,k1,x2,k2,x3,k3,x4,k4,x5,k5⟩:=T
  obtain ⟨hd0,hd1,hd2,hd3,hd4,hd5⟩:=hd
  dsimp only at hd0 hd1 hd2 hd3 hd4 hd5 hbox⊢
  have m2:=Nat.le_trans hd2.cap hd2.max
  have m4:=Nat.le_trans hd4.cap hd4.max
  unfold maxLen at m2 m4
  clear hd0 hd1 hd3 hd5
  obtain ⟨NN,hNN⟩:∃n,n=W.heap.size:=⟨_,rfl⟩
  rw [← hNN] at hgW
  replace hNN:=zH hNN
  replace hne13:=zH hne13
  replace r5:=zH r5;replace r9:=zH r9;replace r13:=zH r13;replace r17:=zH r17
  replace o5:=zH o5;replace o9:=zH o9;replace o13:=zH o13;replace o17:=zH o17
  obtain ⟨cb,fb,zb⟩:=blk hbox
  obtain ⟨cgg,fgg,zgg⟩:=blk hg
  go_wp2_with fail
  go_loopw [4] (fun iv wr=>∃(i:Nat) (A:Option Addr) (n:Nat),i≤d.ins.length∧iv= .int .i64 i∧wr.heap[g]?=some (.cells #[.slice A0 d.jobs.length c0,.slice A1 d.released.length c1,.int .i64 d.next,.slice A i n,.slice A3 d.taken.length c3,.slice none 0 0,.slice A5 d.events.length c5] 45)∧OZl oRing 113 (Rng NN wr.heap.size) wr (.slice A i n) (d.ins.take i)∧Hid (KeepI (ExcD g NN) W wr)∧NN≤wr.heap.size∧Below w.heap.size w wr) (fun iv _=>d.ins.length - (intOf iv).toNat)
  case atStart=>exact ⟨0,none,0,Nat.zero_le _,rfl,hg,OZl.nil _ _ _ _,zH (KeepI.refl _ _),by rw [hNN.out];exact Nat.le_refl _,hBW⟩
  case round=>
   obtain ⟨i,A,n,hi,rfl,hgr,hO,hk,hsw,hbr⟩:=hrel
   have hbx:=(hk.out w.heap.size ⟨by omega,by have:=zb;rw [← hNN.out] at this;exact this⟩).trans hbox
   clear cb fb cgg fgg
   obtain ⟨cb,fb,zb'⟩:=blk hbx
   obtain ⟨cgg,fgg,zgg'⟩:=blk hgr
   by_cases hlt:i < d.ins.length
   ·have hi0:(0:Int)≤i:=by omega
    have hi1:(i:Int) < d.ins.length:=by omega
    obtain ⟨b,o,A9,c9,rfl,hI,hc0,hc1,hv9⟩:=(hd2.next hB hbr).at_ring hlt
    have hI:=Nat.lt_of_lt_of_le hI hB
    have hvb:=hbd.out.vals i hlt
    have hib:=hbd.out.ins
    obtain ⟨vs,hvs⟩:∃v,v=(nth d.ins i).vals:=⟨_,rfl⟩
    obtain ⟨lost,hlost⟩:∃v,v=(nth d.ins i).lost:=⟨_,rfl⟩
    have hx:(⟨vs,lost⟩:TRing)=nth d.ins i:=by rw [hvs,hlost]
    rw [← hvs] at hc0 hv9 hvb
    rw [← hlost] at hc1
    replace hx:=zH hx
    clear hvs hlost
    have hbl:b < wr.heap.size:=by omega
    have hv9:Sl cInt (Low B) wr A9 c9 vs:=hv9
    have hg:=hgr
    have hbox:=hbx
    have hgl:g < NN:=by rw [hNN.out];exact zgg
    go_wp2_with fail
    refine wp_region_inv [32,33,34,35,36,37,38,39,40,41,42,43,44,45,46,47,48,49,50,51] (fun l f W=>(Below w.heap.size w W∧wr.heap.size≤W.heap.size∧W.heap[w.heap.size]?=some (.cells #[.slice x0 d.jobs.length k0,.slice x1 d.released.length k1,.int .i64 d.next,.slice (some ⟨b,o,none⟩) d.ins.length k2,.slice x3 d.taken.length k3,.slice x4 d.outs.length k4,.slice x5 d.events.length k5] 45)∧(Lst l 20∨W.heap[g]?=some (.cells #[.slice A0 d.jobs.length c0,.slice A1 d.released.length c1,.int .i64 d.next,.slice A i n,.slice A3 d.taken.length c3,.slice none 0 0,.slice A5 d.events.length c5] 45))∧(Lst l 18∨OZl oRing 113 (Rng NN wr.heap.size) W (.slice A i n) (d.ins.take i))∧Hid (KeepI (ExcD g NN) wr W)∧l.size=21)∧Fa l 0 (f 32= .pointer (some ⟨g,3,none⟩))∧Fa l 1 (f 33= .slice A i n)∧Fa l 2 (∃a,f 34= .slice (some a) 0 0)∧Fa l 3 (f 35= .pointer (some ⟨w.heap.size,3,none⟩))∧Fa l 4 (f 36= .slice (some ⟨b,o,none⟩) d.ins.length k2)∧Fa l 5 (f 37= .int .i64 i)∧Fa l 6 (f 38= .pointer (some ⟨b,o+i*2,none⟩))∧Fa l 7 (f 39= .pointer (some ⟨b,o+i*2,none⟩))∧Fa l 8 (f 40= .slice A9 vs.length c9)∧Fa l 9 (RzN wr.heap.size W 3 1 (f 41) vs.length (vs.flatMap fun n=>[Value.int .i64 n]))∧Fa l 10 (f 42= .pointer (some ⟨w.heap.size,3,none⟩))∧Fa l 11 (f 43= .slice (some ⟨b,o,none⟩) d.ins.length k2)∧Fa l 12 (f 44= .int .i64 i)∧Fa l 13 (f 45= .pointer (some ⟨b,o+i*2,none⟩))∧Fa l 14 (f 46= .pointer (some ⟨b,o+i*2+1,none⟩))∧Fa l 15 (f 47= .int .i64 lost)∧Fa l 16 (Lst l 9∧f 48= .agg #[f 41,.int .i64 lost])∧Fa l 17 (Lst l 9∧∃gr,f 49= .slice (some ⟨gr,0,none⟩) 1 1∧wr.heap.size≤gr∧W.heap[gr]?=some (.cells #[f 41,.int .i64 lost] 113))∧Fa l 18 (∃A6 c6,f 50= .slice A6 (i+1) c6∧OZl oRing 113 (Rng NN W.heap.size) W (.slice A6 (i+1) c6) (d.ins.take (i+1)))∧Fa l 19 (f 51= .pointer (some ⟨g,3,none⟩))∧Fa l 20 ((Lst l 1∧Lst l 2∧Lst l 9∧Lst l 17∧Lst l 18)∧W.heap[g]?=some (.cells #[.slice A0 d.jobs.length c0,.slice A1 d.released.length c1,.int .i64 d.next,f 50,.slice A3 d.taken.length c3,.slice none 0 0,.slice A5 d.events.length c5] 45))) (by kernel_rfl) (by decide) (by kernel_rfl) (by intro s hs;simp at hs⊢;omega) ?_ ?_ ?_
    ·intro l hz hl
     exact ⟨⟨hbr.drew,Nat.le_refl _,hbox,.inr hg,.inr hO,zH (KeepI.refl _ _),hz⟩,.no (hl 0),.no (hl 1),.no (hl 2),.no (hl 3),.no (hl 4),.no (hl 5),.no (hl 6),.no (hl 7),.no (hl 8),.no (hl 9),.no (hl 10),.no (hl 11),.no (hl 12),.no (hl 13),.no (hl 14),.no (hl 15),.no (hl 16),.no (hl 17),.no (hl 18),.no (hl 19),.no (hl 20)⟩
    ·refine StepsL.c 1 [] (fun l f W hR hn hb K Q2 hK=>?_) ?_
     ·obtain ⟨hS,h0,h1,h2,h3,h4,h5,h6,h7,h8,h9,h10,h11,h12,h13,h14,h15,h16,h17,h18,h19,h20⟩:=hR
      clear hb
      refine ⟨?_⟩
      simp only [pfs] at hK⊢
      go_simp
      exact hK.out _ _ byK
     refine StepsL.c 2 [0] (fun l f W hR hn hb K Q2 hK=>?_) ?_
     ·obtain ⟨hS,h0,h1,h2,h3,h4,h5,h6,h7,h8,h9,h10,h11,h12,h13,h14,h15,h16,h17,h18,h19,h20⟩:=hR
      have q0:=h0.out (hb 0 (by simp))
      have hnl:¬ Lst l 20:=fun h=>hn (h20.out h).1.1
      clear hb
      refine ⟨?_⟩
      simp only [pfs] at hK⊢
      (try simp only [q0] at hK)
      obtain ⟨cG,fG,zG⟩:=blk (hS.2.2.2.1.resolve_left (fun h=>hnl h))
      go_simp
      exact hK.out _ _ byK
     refine StepsL.c 3 [] (fun l f W hR hn hb K Q2 hK=>?_) ?_
     ·obtain ⟨hS,h0,h1,h2,h3,h4,h5,h6,h7,h8,h9,h10,h11,h12,h13,h14,h15,h16,h17,h18,h19,h20⟩:=hR
      clear hb
      refine ⟨?_⟩
      simp only [pfs] at hK⊢
      go_simp
      refine hK.out _ _ ⟨⟨hS.1.alloc (by have:=hS.2.1;omega) _,Nat.le_trans hS.2.1 (Ext.alloc _ _).size,(Ext.alloc _ _).blk hS.2.2.1,hS.2.2.2.1.imp Lst.fwd (Ext.alloc _ _).blk,hS.2.2.2.2.1.imp Lst.fwd (fun h=>h.keep fun b hb=>(Ext.alloc _ _).at_ b (by have:=hb.2;have:=hS.2.1;omega)),zH (fun b hb=>((Ext.alloc _ _).at_ b (by have:=hb.2;have:=hS.2.1;omega)).trans (hS.2.2.2.2.2.1.out b hb)),by simpa using hS.2.2.2.2.2.2⟩,h0.k,h1.k,⟨fun _=>⟨_,rfl⟩⟩,h3.k,h4.k,h5.k,h6.k,h7.k,h8.k,⟨fun hl=>(h9.out hl.b).ext (Ext.alloc _ _)⟩,h10.k,h11.k,h12.k,h13.k,h14.k,h15.k,h16.m,⟨fun hl=>⟨(h17.out hl.b).1.fwd,let ⟨gr,a,b,c⟩:=(h17.out hl.b).2;⟨gr,a,b,(Ext.alloc _ _).blk c⟩⟩⟩,⟨fun hl=>let ⟨A6,c6,a,b⟩:=(h18.out hl.b);⟨A6,c6,a,(b.keep fun b hb=>(Ext.alloc _ _).at_ b hb.2).mono fun b hb=>⟨hb.1,Nat.lt_of_lt_of_le hb.2 (Ext.alloc _ _).size⟩⟩⟩,h19.k,⟨fun hl=>absurd (h20.out hl.b).1.2.1 hn⟩⟩
     refine StepsL.c 4 [] byOp ?_
     refine StepsL.c 5 [3] (fun l f W hR hn hb K Q2 hK=>?_) ?_
     ·obtain ⟨hS,h0,h1,h2,h3,h4,h5,h6,h7,h8,h9,h10,h11,h12,h13,h14,h15,h16,h17,h18,h19,h20⟩:=hR
      have q3:=h3.out (hb 3 (by simp))
      clear hb
      refine ⟨?_⟩
      simp only [pfs] at hK⊢
      (try simp only [q3] at hK)
      obtain ⟨cS,fS,zS⟩:=blk hS.2.2.1
      go_simp
      exact hK.out _ _ byK
     refine StepsL.c 6 [] byOp ?_
     refine StepsL.c 7 [4,5] (fun l f W hR hn hb K Q2 hK=>?_) ?_
     ·obtain ⟨hS,h0,h1,h2,h3,h4,h5,h6,h7,h8,h9,h10,h11,h12,h13,h14,h15,h16,h17,h18,h19,h20⟩:=hR
      have q4:=h4.out (hb 4 (by simp))
      have q5:=h5.out (hb 5 (by simp))
      clear hb
      refine ⟨?_⟩
      simp only [pfs] at hK⊢
      (try simp only [q4,q5] at hK)
      go_simp
      exact hK.out _ _ byK
     refine StepsL.c 8 [6] (fun l f W hR hn hb K Q2 hK=>?_) ?_
     ·obtain ⟨hS,h0,h1,h2,h3,h4,h5,h6,h7,h8,h9,h10,h11,h12,h13,h14,h15,h16,h17,h18,h19,h20⟩:=hR
      have q6:=h6.out (hb 6 (by simp))
      clear hb
      refine ⟨?_⟩
      simp only [pfs] at hK⊢
      (try simp only [q6] at hK)
      go_simp
      exact hK.out _ _ byK
     refine StepsL.c 9 [7] (fun l f W hR hn hb K Q2 hK=>?_) ?_
     ·obtain ⟨hS,h0,h1,h2,h3,h4,h5,h6,h7,h8,h9,h10,h11,h12,h13,h14,h15,h16,h17,h18,h19,h20⟩:=hR
      have q7:=h7.out (hb 7 (by simp))
      clear hb
      refine ⟨?_⟩
      simp only [pfs] at hK⊢
      (try simp only [q7] at hK)
      have hcA:=(cell_heapD (hS.2.2.2.2.2.1.out b ⟨by omega,by omega⟩) (o+i*2)).trans hc0
      go_simp
      exact hK.out _ _ byK
     refine StepsL.c 10 [2,8] (fun l f W hR hn hb K Q2 hK=>?_) ?_
     ·obtain ⟨hS,h0,h1,h2,h3,h4,h5,h6,h7,h8,h9,h10,h11,h12,h13,h14,h15,h16,h17,h18,h19,h20⟩:=hR
      have q2:=h2.out (hb 2 (by simp))
      have q8:=h8.out (hb 8 (by simp))
      obtain ⟨ra,re⟩:=q2
      have hsz:=hS.2.1
      have hsrc:=(hv9.keep fun b hb=>hS.2.2.2.2.2.1.out b (by simp only [Low] at hb;exact ⟨by omega,by omega⟩)).src
      clear hb
      refine ⟨?_⟩
      simp only [pfs] at hK⊢
      (try simp only [q8,re] at hK)
      simp only [q8,re]
      refine wp_appZ (.tmp 34) (.tmp 40) _ rfl tyInt (.slice (some ra) 0 0) 0 [] (by rfl) (ownsZ.room _ _ _ _) A9 vs.length c9 (vs.flatMap fun n=>[Value.int .i64 n]) (by rfl) hsrc (one_int _) (by have:=Nat.le_trans hv9.cap hv9.max;omega) (by omega) (fun A7 c7 w7 own3 gr3 at3=>?_)
      rw [rowZ_zero] at gr3 at3
      simp only [Nat.zero_add,List.nil_append] at own3 at3⊢
      simp only [Act.put,List.setIfInBounds_toArray,List.set_cons_zero,List.set_cons_succ]
      refine hK.out _ _ ⟨⟨hS.1.grown gr3 (by have:=hS.2.1;omega) (fun k hk=>by cases hk),Nat.le_trans hS.2.1 (Ext.grown gr3).size,(Ext.grown gr3).blk hS.2.2.1,hS.2.2.2.1.imp Lst.fwd (Ext.grown gr3).blk,hS.2.2.2.2.1.imp Lst.fwd (fun h=>h.keep fun b hb=>(Ext.grown gr3).at_ b (by have:=hb.2;have:=hS.2.1;omega)),zH (fun b hb=>((Ext.grown gr3).at_ b (by have:=hb.2;have:=hS.2.1;omega)).trans (hS.2.2.2.2.2.1.out b hb)),by simpa using hS.2.2.2.2.2.2⟩,h0.k,h1.k,h2.k,h3.k,h4.k,h5.k,h6.k,h7.k,h8.k,⟨fun _=>⟨A7,c7,rfl,own3,fun b hb=>by rcases at3 b hb with e|e;cases e;exact ⟨by omega,ownZ_lt own3 b hb⟩⟩⟩,h10.k,h11.k,h12.k,h13.k,h14.k,h15.k,⟨fun hl=>absurd (h16.out hl.b).1 hn⟩,⟨fun hl=>absurd (h17.out hl.b).1 hn⟩,⟨fun hl=>let ⟨A6,c6,a,b⟩:=(h18.out hl.b);⟨A6,c6,a,(b.keep fun b hb=>(Ext.grown gr3).at_ b hb.2).mono fun b hb=>⟨hb.1,Nat.lt_of_lt_of_le hb.2 (Ext.grown gr3).size⟩⟩⟩,h19.k,⟨fun hl=>absurd (h20.out hl.b).1.2.2.1 hn⟩⟩
     refine StepsL.c 11 [] byOp ?_
     refine StepsL.c 12 [10] (fun l f W hR hn hb K Q2 hK=>?_) ?_
     ·obtain ⟨hS,h0,h1,h2,h3,h4,h5,h6,h7,h8,h9,h10,h11,h12,h13,h14,h15,h16,h17,h18,h19,h20⟩:=hR
      have q10:=h10.out (hb 10 (by simp))
      clear hb
      refine ⟨?_⟩
      simp only [pfs] at hK⊢
      (try simp only [q10] at hK)
      obtain ⟨cS,fS,zS⟩:=blk hS.2.2.1
      go_simp
      exact hK.out _ _ byK
     refine StepsL.c 13 [] byOp ?_
     refine StepsL.c 14 [11,12] (fun l f W hR hn hb K Q2 hK=>?_) ?_
     ·obtain ⟨hS,h0,h1,h2,h3,h4,h5,h6,h7,h8,h9,h10,h11,h12,h13,h14,h15,h16,h17,h18,h19,h20⟩:=hR
      have q11:=h11.out (hb 11 (by simp))
      have q12:=h12.out (hb 12 (by simp))
      clear hb
      refine ⟨?_⟩
      simp only [pfs] at hK⊢
      (try simp only [q11,q12] at hK)
      go_simp
      exact hK.out _ _ byK
     refine StepsL.c 15 [13] (fun l f W hR hn hb K Q2 hK=>?_) ?_
     ·obtain ⟨hS,h0,h1,h2,h3,h4,h5,h6,h7,h8,h9,h10,h11,h12,h13,h14,h15,h16,h17,h18,h19,h20⟩:=hR
      have q13:=h13.out (hb 13 (by simp))
      clear hb
      refine ⟨?_⟩
      simp only [pfs] at hK⊢
      (try simp only [q13] at hK)
      go_simp
      exact hK.out _ _ byK
     refine StepsL.c 16 [14] (fun l f W hR hn hb K Q2 hK=>?_) ?_
     ·obtain ⟨hS,h0,h1,h2,h3,h4,h5,h6,h7,h8,h9,h10,h11,h12,h13,h14,h15,h16,h17,h18,h19,h20⟩:=hR
      have q14:=h14.out (hb 14 (by simp))
      clear hb
      refine ⟨?_⟩
      simp only [pfs] at hK⊢
      (try simp only [q14] at hK)
      have hcA:=(cell_heapD (hS.2.2.2.2.2.1.out b ⟨by omega,by omega⟩) (o+i*2+1)).trans hc1
      go_simp
      exact hK.out _ _ byK
     refine StepsL.c 17 [9,15] (fun l f W hR hn hb K Q2 hK=>?_) ?_
     ·obtain ⟨hS,h0,h1,h2,h3,h4,h5,h6,h7,h8,h9,h10,h11,h12,h13,h14,h15,h16,h17,h18,h19,h20⟩:=hR
      have q9:=h9.out (hb 9 (by simp))
      have q15:=h15.out (hb 15 (by simp))
      have hb9:=hb 9 (by simp)
      have L9:=hb9
      obtain ⟨A7,c7,e9,_,_⟩:=q9
      clear hb
      refine ⟨?_⟩
      simp only [pfs] at hK⊢
      (try simp only [q15,e9] at hK)
      go_simp
      refine hK.out _ _ ⟨⟨hS.1,hS.2.1,hS.2.2.1,hS.2.2.2.1.imp Lst.fwd id,hS.2.2.2.2.1.imp Lst.fwd id,hS.2.2.2.2.2.1,by simpa using hS.2.2.2.2.2.2⟩,h0.k,h1.k,h2.k,h3.k,h4.k,h5.k,h6.k,h7.k,h8.k,h9.k,h10.k,h11.k,h12.k,h13.k,h14.k,h15.k,⟨fun _=>⟨L9.fwd,by simp [upd,e9]⟩⟩,h17.m,h18.k,h19.k,h20.m⟩
     refine StepsL.c 18 [16] (fun l f W hR hn hb K Q2 hK=>?_) ?_
     ·obtain ⟨hS,h0,h1,h2,h3,h4,h5,h6,h7,h8,h9,h10,h11,h12,h13,h14,h15,h16,h17,h18,h19,h20⟩:=hR
      have q16:=h16.out (hb 16 (by simp))
      have L9:=q16.1
      have q16:=q16.2
      have q9:=h9.out L9
      obtain ⟨A7,c7,e9,_,_⟩:=q9
      rw [e9] at q16
      have hsz:=hS.2.1
      clear hb
      refine ⟨?_⟩
      simp only [pfs] at hK⊢
      (try simp only [e9,q16] at hK)
      go_simp
      refine hK.out _ _ ⟨⟨hS.1.alloc (by have:=hS.2.1;omega) _,Nat.le_trans hS.2.1 (Ext.alloc _ _).size,(Ext.alloc _ _).blk hS.2.2.1,hS.2.2.2.1.imp Lst.fwd (Ext.alloc _ _).blk,hS.2.2.2.2.1.imp Lst.fwd (fun h=>h.keep fun b hb=>(Ext.alloc _ _).at_ b (by have:=hb.2;have:=hS.2.1;omega)),zH (fun b hb=>((Ext.alloc _ _).at_ b (by have:=hb.2;have:=hS.2.1;omega)).trans (hS.2.2.2.2.2.1.out b hb)),by simpa using hS.2.2.2.2.2.2⟩,h0.k,h1.k,h2.k,h3.k,h4.k,h5.k,h6.k,h7.k,h8.k,⟨fun hl=>(h9.out hl.b).ext (Ext.alloc _ _)⟩,h10.k,h11.k,h12.k,h13.k,h14.k,h15.k,h16.m,⟨fun _=>⟨L9.fwd,W.heap.size,rfl,hsz,by show _=some (Obj.cells #[f 41,_] _ _);rw [e9];exact heapAt _ _ _ rfl⟩⟩,⟨fun hl=>let ⟨A6,c6,a,b⟩:=(h18.out hl.b);⟨A6,c6,a,(b.keep fun b hb=>(Ext.alloc _ _).at_ b hb.2).mono fun b hb=>⟨hb.1,Nat.lt_of_lt_of_le hb.2 (Ext.alloc _ _).size⟩⟩⟩,h19.k,⟨fun hl=>absurd (h20.out hl.b).1.2.2.2.1 hn⟩⟩
     refine StepsL.c 19 [1,17,9] (fun l f W hR hn hb K Q2 hK=>?_) ?_
     ·obtain ⟨hS,h0,h1,h2,h3,h4,h5,h6,h7,h8,h9,h10,h11,h12,h13,h14,h15,h16,h17,h18,h19,h20⟩:=hR
      have q1:=h1.out (hb 1 (by simp))
      have q9:=h9.out (hb 9 (by simp))
      have q17:=h17.out (hb 17 (by simp))
      have hO:=hS.2.2.2.2.1.resolve_left hn
      obtain ⟨L9,gr,egr,grl,hgr⟩:=q17
      have q9b:=q9
      obtain ⟨A7,c7,e9,o9,r9⟩:=q9b
      rw [e9] at o9 r9 hgr
      obtain ⟨ess,G,e1,e2,e3,e4,e5,e6⟩:=hO
      rw [len_take (Nat.le_of_lt hlt)] at e1 e2
      have e2:ownsZ W 113 2 (.slice A i n) i ess.flatten:=e2
      have hsz:=hS.2.1
      have hrow:∀b,rowZ (.slice A i n)=some b→NN≤b∧b < wr.heap.size:=fun b hb=>e3 b hb
      have zw:=(blk hS.2.2.1).2.2
      have hgrl:=(blk hgr).2.2
      clear hb
      refine ⟨?_⟩
      simp only [pfs] at hK⊢
      (try simp only [q1,egr] at hK)
      simp only [q1,egr]
      refine wp_appZ (.tmp 33) (.tmp 49) _ rfl tyRing (.slice A i n) i ess.flatten (by rfl) e2 (some ⟨gr,0,none⟩) 1 1 [.slice A7 vs.length c7,.int .i64 lost] (by rfl) (Src.of_new hgr rfl) (by intro u hu;simp at hu;rcases hu with rfl|rfl<;>rfl) (by unfold maxLen;omega) (by omega) (fun A6 c6 w6 own3 gr3 at3=>?_)
      simp only [Act.put,List.setIfInBounds_toArray,List.set_cons_zero,List.set_cons_succ]
      refine hK.out _ _ ⟨⟨hS.1.grown gr3 (by have:=hS.2.1;omega) (fun k hk=>by have:=hrow k hk;omega),Nat.le_trans hS.2.1 gr3.size,(gr3.block _ (by omega) (fun e=>by have:=hrow _ e.symm;omega)).trans hS.2.2.1,hS.2.2.2.1.imp Lst.fwd (fun h=>(gr3.block _ (by omega) (fun e=>by have:=hrow _ e.symm;omega)).trans h),.inl (Lst.self (by rw [hS.2.2.2.2.2.2];omega)),zH (fun b hb=>(gr3.block b (by have:=hb.2;omega) (fun e=>by have:=hrow _ e.symm;have:=hb.2;omega)).trans (hS.2.2.2.2.2.1.out b hb)),by simpa using hS.2.2.2.2.2.2⟩,h0.k,h1.k,h2.k,h3.k,h4.k,h5.k,h6.k,h7.k,h8.k,⟨fun hl=>(h9.out hl.b).keep (fun b hb=>gr3.block b ((h9.out hl.b).lt b hb) (fun e=>by have:=hrow b e.symm;have:=(h9.out hl.b).lo b hb;omega)) gr3.size⟩,h10.k,h11.k,h12.k,h13.k,h14.k,h15.k,h16.m,⟨fun hl=>⟨(h17.out hl.b).1.fwd,gr,egr,grl,(gr3.block gr hgrl (fun e=>by have:=hrow gr e.symm;omega)).trans (by show _=some (Obj.cells #[f 41,_] _ _);rw [e9];exact hgr)⟩⟩,⟨fun _=>⟨A6,c6,rfl,by rw [take_snoc hlt];exact ozl_step (F:=Rng NN wr.heap.size) (Fx:=Rng wr.heap.size W.heap.size) (w0:=W) (es:=[.slice A7 vs.length c7,.int .i64 lost]) (by rw [len_take (Nat.le_of_lt hlt)];exact e1) e4 e5 e6 e3 gr3 at3 (by rw [len_take (Nat.le_of_lt hlt)];exact own3) (by rw [← hx.out];exact ⟨_,rfl,ozl_flat.2 ⟨o9,fun b hb=>(by have:=r9 b hb;exact this)⟩⟩) (KeepI.refl _ _) (fun b h1 h2=>by simp only [Rng] at h1 h2;omega) (fun b h=>by simp only [Rng] at h;omega) (fun b h=>by simp only [Rng] at h⊢;have:=gr3.size;omega) (fun b h1 h2=>by simp only [Rng];omega) (KeepI.refl _ _)⟩⟩,h19.k,⟨fun hl=>absurd (h20.out hl.b).1.2.2.2.2 hn⟩⟩
     refine StepsL.c 20 [0,1,2,3,4,5,6,7,8,9,10,11,12,13,14,15,16,17,18] (fun l f W hR hn hb K Q2 hK=>?_) ?_
     ·obtain ⟨hS,h0,h1,h2,h3,h4,h5,h6,h7,h8,h9,h10,h11,h12,h13,h14,h15,h16,h17,h18,h19,h20⟩:=hR
      have q0:=h0.out (hb 0 (by simp))
      have q1:=h1.out (hb 1 (by simp))
      have q2:=h2.out (hb 2 (by simp))
      have q3:=h3.out (hb 3 (by simp))
      have q4:=h4.out (hb 4 (by simp))
      have q5:=h5.out (hb 5 (by simp))
      have q6:=h6.out (hb 6 (by simp))
      have q7:=h7.out (hb 7 (by simp))
      have q8:=h8.out (hb 8 (by simp))
      have q9:=h9.out (hb 9 (by simp))
      have q10:=h10.out (hb 10 (by simp))
      have q11:=h11.out (hb 11 (by simp))
      have q12:=h12.out (hb 12 (by simp))
      have q13:=h13.out (hb 13 (by simp))
      have q14:=h14.out (hb 14 (by simp))
      have q15:=h15.out (hb 15 (by simp))
      have q16:=h16.out (hb 16 (by simp))
      have q17:=h17.out (hb 17 (by simp))
      have q18:=h18.out (hb 18 (by simp))
      replace q16:=zH q16
      replace q17:=zH q17
      replace q18:=zH q18
      clear hb
      refine ⟨?_⟩
      simp only [pfs] at hK⊢
      (try simp only [q0,q1,q3,q4,q5,q6,q7,q8,q10,q11,q12,q13,q14,q15] at hK)
      go_simp
      exact hK.out _ _ byK
     refine StepsL.c 21 [19,18,18,0,1,2,3,4,5,6,7,8,9,10,11,12,13,14,15,16,17,18] (fun l f W hR hn hb K Q2 hK=>?_) ?_
     ·obtain ⟨hS,h0,h1,h2,h3,h4,h5,h6,h7,h8,h9,h10,h11,h12,h13,h14,h15,h16,h17,h18,h19,h20⟩:=hR
      have q0:=h0.out (hb 0 (by simp))
      have q1:=h1.out (hb 1 (by simp))
      have q2:=h2.out (hb 2 (by simp))
      have q3:=h3.out (hb 3 (by simp))
      have q4:=h4.out (hb 4 (by simp))
      have q5:=h5.out (hb 5 (by simp))
      have q6:=h6.out (hb 6 (by simp))
      have q7:=h7.out (hb 7 (by simp))
      have q8:=h8.out (hb 8 (by simp))
      have q9:=h9.out (hb 9 (by simp))
      have q10:=h10.out (hb 10 (by simp))
      have q11:=h11.out (hb 11 (by simp))
      have q12:=h12.out (hb 12 (by simp))
      have q13:=h13.out (hb 13 (by simp))
      have q14:=h14.out (hb 14 (by simp))
      have q15:=h15.out (hb 15 (by simp))
      have q16:=h16.out (hb 16 (by simp))
      have q17:=h17.out (hb 17 (by simp))
      have q18:=h18.out (hb 18 (by simp))
      have q19:=h19.out (hb 19 (by simp))
      have hb1:=hb 1 (by simp)
      have hb2:=hb 2 (by simp)
      have hb9:=hb 9 (by simp)
      have hb17:=hb 17 (by simp)
      have hb18:=hb 18 (by simp)
      replace q16:=zH q16
      have L1:=hb1
      have L2:=hb2
      have L9:=hb9
      have L17:=hb17
      have L18:=hb18
      obtain ⟨A6,c6,e18,_⟩:=q18
      have hg:=hS.2.2.2.1.resolve_left hn
      have zw:=(blk hS.2.2.1).2.2
      clear hb
      refine ⟨?_⟩
      simp only [pfs] at hK⊢
      (try simp only [q0,q1,q3,q4,q5,q6,q7,q8,q10,q11,q12,q13,q14,q15,q19,e18] at hK)
      obtain ⟨cD,fD,zD⟩:=blk hg
      go_simp
      refine hK.out undef (W.setCell ⟨g,3,none⟩ (.slice A6 (i+1) c6)) ⟨⟨hS.1.setCell (show w.heap.size≤g by omega) _,by simpa using hS.2.1,(Below.heap_setCell _ _ _ _ (show w.heap.size≠g by omega)).trans hS.2.2.1,.inl (Lst.self (by rw [hS.2.2.2.2.2.2];omega)),hS.2.2.2.2.1.imp Lst.fwd (fun h=>h.keep fun b hb=>Below.heap_setCell _ _ _ _ (show b≠g by have:=hb.1;omega)),zH (fun b hb=>(Below.heap_setCell _ _ _ _ (show b≠g by have:=hb.1;omega)).trans (hS.2.2.2.2.2.1.out b hb)),by simpa using hS.2.2.2.2.2.2⟩,h0.k,h1.k,h2.k,h3.k,h4.k,h5.k,h6.k,h7.k,h8.k,⟨fun hl=>(h9.out hl.b).keep (fun b hb=>Below.heap_setCell _ _ _ _ (show b≠g by have:=(h9.out hl.b).lo b hb;omega)) (by simp)⟩,h10.k,h11.k,h12.k,h13.k,h14.k,h15.k,h16.m,⟨fun hl=>⟨(h17.out hl.b).1.fwd,let ⟨gr,a,b,c⟩:=(h17.out hl.b).2;⟨gr,a,b,(Below.heap_setCell _ _ _ _ (show gr≠g by omega)).trans c⟩⟩⟩,⟨fun hl=>let ⟨A6,c6,a,b⟩:=(h18.out hl.b);⟨A6,c6,a,(b.keep fun b hb=>Below.heap_setCell _ _ _ _ (show b≠g by have:=hb.1;omega)).mono fun b hb=>by simpa [Rng] using hb⟩⟩,h19.k,⟨fun _=>⟨⟨L1.fwd,L2.fwd,L9.fwd,L17.fwd,L18.fwd⟩,by show _=some (Obj.cells #[.slice A0 d.jobs.length c0,.slice A1 d.released.length c1,.int .i64 d.next,f 50,.slice A3 d.taken.length c3,.slice none 0 0,.slice A5 d.events.length c5] _ _);rw [e18];refine (heap_set_same hg).trans ?_;simp⟩⟩⟩
     exact StepsL.nil
    ·intro l f W hR hall
     obtain ⟨hS,h0,h1,h2,h3,h4,h5,h6,h7,h8,h9,h10,h11,h12,h13,h14,h15,h16,h17,h18,h19,h20⟩:=hR
     have q0:=h0.out (hall 0 (by decide))
     have q1:=h1.out (hall 1 (by decide))
     have q2:=h2.out (hall 2 (by decide))
     have q3:=h3.out (hall 3 (by decide))
     have q4:=h4.out (hall 4 (by decide))
     have q5:=h5.out (hall 5 (by decide))
     have q6:=h6.out (hall 6 (by decide))
     have q7:=h7.out (hall 7 (by decide))
     have q8:=h8.out (hall 8 (by decide))
     have q9:=h9.out (hall 9 (by decide))
     have q10:=h10.out (hall 10 (by decide))
     have q11:=h11.out (hall 11 (by decide))
     have q12:=h12.out (hall 12 (by decide))
     have q13:=h13.out (hall 13 (by decide))
     have q14:=h14.out (hall 14 (by decide))
     have q15:=h15.out (hall 15 (by decide))
     have q16:=h16.out (hall 16 (by decide))
     have q17:=h17.out (hall 17 (by decide))
     have q18:=h18.out (hall 18 (by decide))
     have q19:=h19.out (hall 19 (by decide))
     have q20:=h20.out (hall 20 (by decide))
     clear h0 h1 h2 h3 h4 h5 h6 h7 h8 h9 h10 h11 h12 h13 h14 h15 h16 h17 h18 h19 h20
     simp only [pfs]
     obtain ⟨hB1,hB2,_,_,_,hB6,_⟩:=hS
     obtain ⟨A6,c6,e18,hO6⟩:=q18
     have hg6:=q20.2
     rw [e18] at hg6
     clear e18
     go_wp2_with fail
     go_roundw
     case rel=>exact ⟨i+1,A6,c6,by omega,by go_num,hg6,hO6,zH (hk.out.trans hB6.out),Nat.le_trans hsw hB2,hB1⟩
     case measure=>simp [intOf];omega
   ·obtain rfl:i=d.ins.length:=by omega
    rw [List.take_length] at hO
    obtain ⟨W2,rfl⟩:∃x:World,x=wr:=⟨_,rfl⟩
    obtain ⟨A2,rfl⟩:∃x,x=A:=⟨_,rfl⟩
    obtain ⟨c2,rfl⟩:∃x,x=n:=⟨_,rfl⟩
    obtain ⟨N1,rfl⟩:∃x,x=NN:=⟨_,rfl⟩
    have hN1:=hNN
    have hO2:=zH hO
    have hk2:=hk
    have hres2:=(hk.out (w.heap.size+1) ⟨by omega,by have:=zgg;rw [← hNN.out] at this;omega⟩).trans hres
    have hsw2:=hsw
    have hgW0:=zH hg
    have hg:=hgr
    have hbox:=hbx
    have hBW:=hbr
    have zgg:=zgg'
    have zb:=zb'
    clear hgr hbx hbr hO hk hsw hres hNN
    obtain ⟨NN,hNN⟩:∃n,n=W2.heap.size:=⟨_,rfl⟩
    replace hNN:=zH hNN
    go_wp2_with fail
    go_loopw [5] (fun iv wr=>∃(i:Nat) (A:Option Addr) (n:Nat),i≤d.outs.length∧iv= .int .i64 i∧wr.heap[g]?=some (.cells #[.slice A0 d.jobs.length c0,.slice A1 d.released.length c1,.int .i64 d.next,.slice A2 d.ins.length c2,.slice A3 d.taken.length c3,.slice A i n,.slice A5 d.events.length c5] 45)∧OZl oInts 23 (Rng NN wr.heap.size) wr (.slice A i n) (d.outs.take i)∧Hid (KeepI (ExcD g NN) W2 wr)∧NN≤wr.heap.size∧Below w.heap.size w wr) (fun iv _=>d.outs.length - (intOf iv).toNat)
    case atStart=>exact ⟨0,none,0,Nat.zero_le _,rfl,hg,OZl.nil _ _ _ _,zH (KeepI.refl _ _),by rw [hNN.out];exact Nat.le_refl _,hBW⟩
    case round=>
     obtain ⟨i,A,n,hi,rfl,hgr,hO,hk,hsw,hbr⟩:=hrel
     have hbx:=(hk.out w.heap.size ⟨by omega,by have:=zb;rw [← hNN.out] at this;exact this⟩).trans hbox
     clear cb fb cgg fgg
     obtain ⟨cb,fb,zb'⟩:=blk hbx
     obtain ⟨cgg,fgg,zgg'⟩:=blk hgr
     by_cases hlt:i < d.outs.length
     ·have hi0:(0:Int)≤i:=by omega
      have hi1:(i:Int) < d.outs.length:=by omega
      obtain ⟨b,o,A9,c9,rfl,hI,hc0,hv9⟩:=(hd4.next hB hbr).at_slice hlt
      have hI:=Nat.lt_of_lt_of_le hI hB
      have hvb:=hbd.out.out i hlt
      have hib:=hbd.out.outs
      obtain ⟨vs,hx⟩:∃v,v=nth d.outs i:=⟨_,rfl⟩
      rw [← hx] at hc0 hv9 hvb
      replace hx:=zH hx
      have hbl:b < wr.heap.size:=by omega
      have hv9:Sl cInt (Low B) wr A9 c9 vs:=hv9
      have hg:=hgr
      have hbox:=hbx
      have hgl:g < NN:=by rw [hNN.out];exact zgg
      go_wp2_with fail
      refine wp_region_inv [59,60,61,62,63,64,65,66,67,68,69,70] (fun l f W=>(Below w.heap.size w W∧wr.heap.size≤W.heap.size∧W.heap[w.heap.size]?=some (.cells #[.slice x0 d.jobs.length k0,.slice x1 d.released.length k1,.int .i64 d.next,.slice x2 d.ins.length k2,.slice x3 d.taken.length k3,.slice (some ⟨b,o,none⟩) d.outs.length k4,.slice x5 d.events.length k5] 45)∧(Lst l 12∨W.heap[g]?=some (.cells #[.slice A0 d.jobs.length c0,.slice A1 d.released.length c1,.int .i64 d.next,.slice A2 d.ins.length c2,.slice A3 d.taken.length c3,.slice A i n,.slice A5 d.events.length c5] 45))∧(Lst l 10∨OZl oInts 23 (Rng NN wr.heap.size) W (.slice A i n) (d.outs.take i))∧Hid (KeepI (ExcD g NN) wr W)∧l.size=13)∧Fa l 0 (f 59= .pointer (some ⟨g,5,none⟩))∧Fa l 1 (f 60= .slice A i n)∧Fa l 2 (∃a,f 61= .slice (some a) 0 0)∧Fa l 3 (f 62= .pointer (some ⟨w.heap.size,5,none⟩))∧Fa l 4 (f 63= .slice (some ⟨b,o,none⟩) d.outs.length k4)∧Fa l 5 (f 64= .int .i64 i)∧Fa l 6 (f 65= .pointer (some ⟨b,o+i,none⟩))∧Fa l 7 (f 66= .slice A9 vs.length c9)∧Fa l 8 (RzN wr.heap.size W 3 1 (f 67) vs.length (vs.flatMap fun n=>[Value.int .i64 n]))∧Fa l 9 (Lst l 8∧∃gr,f 68= .slice (some ⟨gr,0,none⟩) 1 1∧wr.heap.size≤gr∧W.heap[gr]?=some (.cells #[f 67] 23))∧Fa l 10 (∃A6 c6,f 69= .slice A6 (i+1) c6∧OZl oInts 23 (Rng NN W.heap.size) W (.slice A6 (i+1) c6) (d.outs.take (i+1)))∧Fa l 11 (f 70= .pointer (some ⟨g,5,none⟩))∧Fa l 12 ((Lst l 1∧Lst l 2∧Lst l 8∧Lst l 9∧Lst l 10)∧W.heap[g]?=some (.cells #[.slice A0 d.jobs.length c0,.slice A1 d.released.length c1,.int .i64 d.next,.slice A2 d.ins.length c2,.slice A3 d.taken.length c3,f 69,.slice A5 d.events.length c5] 45))) (by kernel_rfl) (by decide) (by kernel_rfl) (by intro s hs;simp at hs⊢;omega) ?_ ?_ ?_
      ·intro l hz hl
       exact ⟨⟨hbr.drew,Nat.le_refl _,hbox,.inr hg,.inr hO,zH (KeepI.refl _ _),hz⟩,.no (hl 0),.no (hl 1),.no (hl 2),.no (hl 3),.no (hl 4),.no (hl 5),.no (hl 6),.no (hl 7),.no (hl 8),.no (hl 9),.no (hl 10),.no (hl 11),.no (hl 12)⟩
      ·refine StepsL.c 1 [] (fun l f W hR hn hb K Q2 hK=>?_) ?_
       ·obtain ⟨hS,h0,h1,h2,h3,h4,h5,h6,h7,h8,h9,h10,h11,h12⟩:=hR
        clear hb
        refine ⟨?_⟩
        simp only [pfs] at hK⊢
        go_simp
        exact hK.out _ _ byK
       refine StepsL.c 2 [0] (fun l f W hR hn hb K Q2 hK=>?_) ?_
       ·obtain ⟨hS,h0,h1,h2,h3,h4,h5,h6,h7,h8,h9,h10,h11,h12⟩:=hR
        have q0:=h0.out (hb 0 (by simp))
        have hnl:¬ Lst l 12:=fun h=>hn (h12.out h).1.1
        clear hb
        refine ⟨?_⟩
        simp only [pfs] at hK⊢
        (try simp only [q0] at hK)
        obtain ⟨cG,fG,zG⟩:=blk (hS.2.2.2.1.resolve_left (fun h=>hnl h))
        go_simp
        exact hK.out _ _ byK
       refine StepsL.c 3 [] (fun l f W hR hn hb K Q2 hK=>?_) ?_
       ·obtain ⟨hS,h0,h1,h2,h3,h4,h5,h6,h7,h8,h9,h10,h11,h12⟩:=hR
        clear hb
        refine ⟨?_⟩
        simp only [pfs] at hK⊢
        go_simp
        refine hK.out _ _ ⟨⟨hS.1.alloc (by have:=hS.2.1;omega) _,Nat.le_trans hS.2.1 (Ext.alloc _ _).size,(Ext.alloc _ _).blk hS.2.2.1,hS.2.2.2.1.imp Lst.fwd (Ext.alloc _ _).blk,hS.2.2.2.2.1.imp Lst.fwd (fun h=>h.keep fun b hb=>(Ext.alloc _ _).at_ b (by have:=hb.2;have:=hS.2.1;omega)),zH (fun b hb=>((Ext.alloc _ _).at_ b (by have:=hb.2;have:=hS.2.1;omega)).trans (hS.2.2.2.2.2.1.out b hb)),by simpa using hS.2.2.2.2.2.2⟩,h0.k,h1.k,⟨fun _=>⟨_,rfl⟩⟩,h3.k,h4.k,h5.k,h6.k,h7.k,⟨fun hl=>(h8.out hl.b).ext (Ext.alloc _ _)⟩,⟨fun hl=>⟨(h9.out hl.b).1.fwd,let ⟨gr,a,b,c⟩:=(h9.out hl.b).2;⟨gr,a,b,(Ext.alloc _ _).blk c⟩⟩⟩,⟨fun hl=>let ⟨A6,c6,a,b⟩:=(h10.out hl.b);⟨A6,c6,a,(b.keep fun b hb=>(Ext.alloc _ _).at_ b hb.2).mono fun b hb=>⟨hb.1,Nat.lt_of_lt_of_le hb.2 (Ext.alloc _ _).size⟩⟩⟩,h11.k,⟨fun hl=>absurd (h12.out hl.b).1.2.1 hn⟩⟩
       refine StepsL.c 4 [] byOp ?_
       refine StepsL.c 5 [3] (fun l f W hR hn hb K Q2 hK=>?_) ?_
       ·obtain ⟨hS,h0,h1,h2,h3,h4,h5,h6,h7,h8,h9,h10,h11,h12⟩:=hR
        have q3:=h3.out (hb 3 (by simp))
        clear hb
        refine ⟨?_⟩
        simp only [pfs] at hK⊢
        (try simp only [q3] at hK)
        obtain ⟨cS,fS,zS⟩:=blk hS.2.2.1
        go_simp
        exact hK.out _ _ byK
       refine StepsL.c 6 [] byOp ?_
       refine StepsL.c 7 [4,5] (fun l f W hR hn hb K Q2 hK=>?_) ?_
       ·obtain ⟨hS,h0,h1,h2,h3,h4,h5,h6,h7,h8,h9,h10,h11,h12⟩:=hR
        have q4:=h4.out (hb 4 (by simp))
        have q5:=h5.out (hb 5 (by simp))
        clear hb
        refine ⟨?_⟩
        simp only [pfs] at hK⊢
        (try simp only [q4,q5] at hK)
        go_simp
        exact hK.out _ _ byK
       refine StepsL.c 8 [6] (fun l f W hR hn hb K Q2 hK=>?_) ?_
       ·obtain ⟨hS,h0,h1,h2,h3,h4,h5,h6,h7,h8,h9,h10,h11,h12⟩:=hR
        have q6:=h6.out (hb 6 (by simp))
        clear hb
        refine ⟨?_⟩
        simp only [pfs] at hK⊢
        (try simp only [q6] at hK)
        have hcA:=(cell_heapD (hS.2.2.2.2.2.1.out b ⟨by omega,by omega⟩) (o+i)).trans hc0
        go_simp
        exact hK.out _ _ byK
       refine StepsL.c 9 [2,7] (fun l f W hR hn hb K Q2 hK=>?_) ?_
       ·obtain ⟨hS,h0,h1,h2,h3,h4,h5,h6,h7,h8,h9,h10,h11,h12⟩:=hR
        have q2:=h2.out (hb 2 (by simp))
        have q7:=h7.out (hb 7 (by simp))
        obtain ⟨ra,re⟩:=q2
        have hsz:=hS.2.1
        have hsrc:=(hv9.keep fun b hb=>hS.2.2.2.2.2.1.out b (by simp only [Low] at hb;exact ⟨by omega,by omega⟩)).src
        clear hb
        refine ⟨?_⟩
        simp only [pfs] at hK⊢
        (try simp only [q7,re] at hK)
        simp only [q7,re]
        refine wp_appZ (.tmp 61) (.tmp 66) _ rfl tyInt (.slice (some ra) 0 0) 0 [] (by rfl) (ownsZ.room _ _ _ _) A9 vs.length c9 (vs.flatMap fun n=>[Value.int .i64 n]) (by rfl) hsrc (one_int _) (by have:=Nat.le_trans hv9.cap hv9.max;omega) (by omega) (fun A7 c7 w7 own3 gr3 at3=>?_)
        rw [rowZ_zero] at gr3 at3
        simp only [Nat.zero_add,List.nil_append] at own3 at3⊢
        simp only [Act.put,List.setIfInBounds_toArray,List.set_cons_zero,List.set_cons_succ]
        refine hK.out _ _ ⟨⟨hS.1.grown gr3 (by have:=hS.2.1;omega) (fun k hk=>by cases hk),Nat.le_trans hS.2.1 (Ext.grown gr3).size,(Ext.grown gr3).blk hS.2.2.1,hS.2.2.2.1.imp Lst.fwd (Ext.grown gr3).blk,hS.2.2.2.2.1.imp Lst.fwd (fun h=>h.keep fun b hb=>(Ext.grown gr3).at_ b (by have:=hb.2;have:=hS.2.1;omega)),zH (fun b hb=>((Ext.grown gr3).at_ b (by have:=hb.2;have:=hS.2.1;omega)).trans (hS.2.2.2.2.2.1.out b hb)),by simpa using hS.2.2.2.2.2.2⟩,h0.k,h1.k,h2.k,h3.k,h4.k,h5.k,h6.k,h7.k,⟨fun _=>⟨A7,c7,rfl,own3,fun b hb=>by rcases at3 b hb with e|e;cases e;exact ⟨by omega,ownZ_lt own3 b hb⟩⟩⟩,⟨fun hl=>absurd (h9.out hl.b).1 hn⟩,⟨fun hl=>let ⟨A6,c6,a,b⟩:=(h10.out hl.b);⟨A6,c6,a,(b.keep fun b hb=>(Ext.grown gr3).at_ b hb.2).mono fun b hb=>⟨hb.1,Nat.lt_of_lt_of_le hb.2 (Ext.grown gr3).size⟩⟩⟩,h11.k,⟨fun hl=>absurd (h12.out hl.b).1.2.2.1 hn⟩⟩
       refine StepsL.c 10 [8] (fun l f W hR hn hb K Q2 hK=>?_) ?_
       ·obtain ⟨hS,h0,h1,h2,h3,h4,h5,h6,h7,h8,h9,h10,h11,h12⟩:=hR
        have q8:=h8.out (hb 8 (by simp))
        have hb8:=hb 8 (by simp)
        have L9:=hb8
        obtain ⟨A7,c7,e9,_,_⟩:=q8
        have hsz:=hS.2.1
        clear hb
        refine ⟨?_⟩
        simp only [pfs] at hK⊢
        (try simp only [e9] at hK)
        go_simp
        refine hK.out _ _ ⟨⟨hS.1.alloc (by have:=hS.2.1;omega) _,Nat.le_trans hS.2.1 (Ext.alloc _ _).size,(Ext.alloc _ _).blk hS.2.2.1,hS.2.2.2.1.imp Lst.fwd (Ext.alloc _ _).blk,hS.2.2.2.2.1.imp Lst.fwd (fun h=>h.keep fun b hb=>(Ext.alloc _ _).at_ b (by have:=hb.2;have:=hS.2.1;omega)),zH (fun b hb=>((Ext.alloc _ _).at_ b (by have:=hb.2;have:=hS.2.1;omega)).trans (hS.2.2.2.2.2.1.out b hb)),by simpa using hS.2.2.2.2.2.2⟩,h0.k,h1.k,h2.k,h3.k,h4.k,h5.k,h6.k,h7.k,⟨fun hl=>(h8.out hl.b).ext (Ext.alloc _ _)⟩,⟨fun _=>⟨L9.fwd,W.heap.size,rfl,hsz,by show _=some (Obj.cells #[f 67] _ _);rw [e9];exact heapAt _ _ _ rfl⟩⟩,⟨fun hl=>let ⟨A6,c6,a,b⟩:=(h10.out hl.b);⟨A6,c6,a,(b.keep fun b hb=>(Ext.alloc _ _).at_ b hb.2).mono fun b hb=>⟨hb.1,Nat.lt_of_lt_of_le hb.2 (Ext.alloc _ _).size⟩⟩⟩,h11.k,⟨fun hl=>absurd (h12.out hl.b).1.2.2.2.1 hn⟩⟩
       refine StepsL.c 11 [1,9,8] (fun l f W hR hn hb K Q2 hK=>?_) ?_
       ·obtain ⟨hS,h0,h1,h2,h3,h4,h5,h6,h7,h8,h9,h10,h11,h12⟩:=hR
        have q1:=h1.out (hb 1 (by simp))
        have q8:=h8.out (hb 8 (by simp))
        have q9:=h9.out (hb 9 (by simp))
        have hO:=hS.2.2.2.2.1.resolve_left hn
        obtain ⟨L9,gr,egr,grl,hgr⟩:=q9
        have q9b:=q8
        obtain ⟨A7,c7,e9,o9,r9⟩:=q9b
        rw [e9] at o9 r9 hgr
        obtain ⟨ess,G,e1,e2,e3,e4,e5,e6⟩:=hO
        rw [len_take (Nat.le_of_lt hlt)] at e1 e2
        have e2:ownsZ W 23 1 (.slice A i n) i ess.flatten:=e2
        have hsz:=hS.2.1
        have hrow:∀b,rowZ (.slice A i n)=some b→NN≤b∧b < wr.heap.size:=fun b hb=>e3 b hb
        have zw:=(blk hS.2.2.1).2.2
        have hgrl:=(blk hgr).2.2
        clear hb
        refine ⟨?_⟩
        simp only [pfs] at hK⊢
        (try simp only [q1,egr] at hK)
        simp only [q1,egr]
        refine wp_appZ (.tmp 60) (.tmp 68) _ rfl tyInts (.slice A i n) i ess.flatten (by rfl) e2 (some ⟨gr,0,none⟩) 1 1 [.slice A7 vs.length c7] (by rfl) (Src.of_new hgr rfl) (one_one rfl) (by unfold maxLen;omega) (by omega) (fun A6 c6 w6 own3 gr3 at3=>?_)
        simp only [Act.put,List.setIfInBounds_toArray,List.set_cons_zero,List.set_cons_succ]
        refine hK.out _ _ ⟨⟨hS.1.grown gr3 (by have:=hS.2.1;omega) (fun k hk=>by have:=hrow k hk;omega),Nat.le_trans hS.2.1 gr3.size,(gr3.block _ (by omega) (fun e=>by have:=hrow _ e.symm;omega)).trans hS.2.2.1,hS.2.2.2.1.imp Lst.fwd (fun h=>(gr3.block _ (by omega) (fun e=>by have:=hrow _ e.symm;omega)).trans h),.inl (Lst.self (by rw [hS.2.2.2.2.2.2];omega)),zH (fun b hb=>(gr3.block b (by have:=hb.2;omega) (fun e=>by have:=hrow _ e.symm;have:=hb.2;omega)).trans (hS.2.2.2.2.2.1.out b hb)),by simpa using hS.2.2.2.2.2.2⟩,h0.k,h1.k,h2.k,h3.k,h4.k,h5.k,h6.k,h7.k,⟨fun hl=>(h8.out hl.b).keep (fun b hb=>gr3.block b ((h8.out hl.b).lt b hb) (fun e=>by have:=hrow b e.symm;have:=(h8.out hl.b).lo b hb;omega)) gr3.size⟩,⟨fun hl=>⟨(h9.out hl.b).1.fwd,gr,egr,grl,(gr3.block gr hgrl (fun e=>by have:=hrow gr e.symm;omega)).trans (by show _=some (Obj.cells #[f 67] _ _);rw [e9];exact hgr)⟩⟩,⟨fun _=>⟨A6,c6,rfl,by rw [take_snoc hlt];exact ozl_step (F:=Rng NN wr.heap.size) (Fx:=Rng wr.heap.size W.heap.size) (w0:=W) (es:=[.slice A7 vs.length c7]) (by rw [len_take (Nat.le_of_lt hlt)];exact e1) e4 e5 e6 e3 gr3 at3 (by rw [len_take (Nat.le_of_lt hlt)];exact own3) (by rw [← hx.out];exact ⟨_,rfl,ozl_flat.2 ⟨o9,fun b hb=>(by have:=r9 b hb;exact this)⟩⟩) (KeepI.refl _ _) (fun b h1 h2=>by simp only [Rng] at h1 h2;omega) (fun b h=>by simp only [Rng] at h;omega) (fun b h=>by simp only [Rng] at h⊢;have:=gr3.size;omega) (fun b h1 h2=>by simp only [Rng];omega) (KeepI.refl _ _)⟩⟩,h11.k,⟨fun hl=>absurd (h12.out hl.b).1.2.2.2.2 hn⟩⟩
       refine StepsL.c 12 [0,1,2,3,4,5,6,7,8,9,10] (fun l f W hR hn hb K Q2 hK=>?_) ?_
       ·obtain ⟨hS,h0,h1,h2,h3,h4,h5,h6,h7,h8,h9,h10,h11,h12⟩:=hR
        have q0:=h0.out (hb 0 (by simp))
        have q1:=h1.out (hb 1 (by simp))
        have q2:=h2.out (hb 2 (by simp))
        have q3:=h3.out (hb 3 (by simp))
        have q4:=h4.out (hb 4 (by simp))
        have q5:=h5.out (hb 5 (by simp))
        have q6:=h6.out (hb 6 (by simp))
        have q7:=h7.out (hb 7 (by simp))
        have q8:=h8.out (hb 8 (by simp))
        have q9:=h9.out (hb 9 (by simp))
        have q10:=h10.out (hb 10 (by simp))
        replace q9:=zH q9
        replace q10:=zH q10
        clear hb
        refine ⟨?_⟩
        simp only [pfs] at hK⊢
        (try simp only [q0,q1,q3,q4,q5,q6,q7] at hK)
        go_simp
        exact hK.out _ _ byK
       refine StepsL.c 13 [11,10,10,0,1,2,3,4,5,6,7,8,9,10] (fun l f W hR hn hb K Q2 hK=>?_) ?_
       ·obtain ⟨hS,h0,h1,h2,h3,h4,h5,h6,h7,h8,h9,h10,h11,h12⟩:=hR
        have q0:=h0.out (hb 0 (by simp))
        have q1:=h1.out (hb 1 (by simp))
        have q2:=h2.out (hb 2 (by simp))
        have q3:=h3.out (hb 3 (by simp))
        have q4:=h4.out (hb 4 (by simp))
        have q5:=h5.out (hb 5 (by simp))
        have q6:=h6.out (hb 6 (by simp))
        have q7:=h7.out (hb 7 (by simp))
        have q8:=h8.out (hb 8 (by simp))
        have q9:=h9.out (hb 9 (by simp))
        have q10:=h10.out (hb 10 (by simp))
        have q11:=h11.out (hb 11 (by simp))
        have hb1:=hb 1 (by simp)
        have hb2:=hb 2 (by simp)
        have hb8:=hb 8 (by simp)
        have hb9:=hb 9 (by simp)
        have hb10:=hb 10 (by simp)
        have L1:=hb1
        have L2:=hb2
        have L9:=hb8
        have L17:=hb9
        have L18:=hb10
        obtain ⟨A6,c6,e18,_⟩:=q10
        have hg:=hS.2.2.2.1.resolve_left hn
        have zw:=(blk hS.2.2.1).2.2
        clear hb
        refine ⟨?_⟩
        simp only [pfs] at hK⊢
        (try simp only [q0,q1,q3,q4,q5,q6,q7,q11,e18] at hK)
        obtain ⟨cD,fD,zD⟩:=blk hg
        go_simp
        refine hK.out undef (W.setCell ⟨g,5,none⟩ (.slice A6 (i+1) c6)) ⟨⟨hS.1.setCell (show w.heap.size≤g by omega) _,by simpa using hS.2.1,(Below.heap_setCell _ _ _ _ (show w.heap.size≠g by omega)).trans hS.2.2.1,.inl (Lst.self (by rw [hS.2.2.2.2.2.2];omega)),hS.2.2.2.2.1.imp Lst.fwd (fun h=>h.keep fun b hb=>Below.heap_setCell _ _ _ _ (show b≠g by have:=hb.1;omega)),zH (fun b hb=>(Below.heap_setCell _ _ _ _ (show b≠g by have:=hb.1;omega)).trans (hS.2.2.2.2.2.1.out b hb)),by simpa using hS.2.2.2.2.2.2⟩,h0.k,h1.k,h2.k,h3.k,h4.k,h5.k,h6.k,h7.k,⟨fun hl=>(h8.out hl.b).keep (fun b hb=>Below.heap_setCell _ _ _ _ (show b≠g by have:=(h8.out hl.b).lo b hb;omega)) (by simp)⟩,⟨fun hl=>⟨(h9.out hl.b).1.fwd,let ⟨gr,a,b,c⟩:=(h9.out hl.b).2;⟨gr,a,b,(Below.heap_setCell _ _ _ _ (show gr≠g by omega)).trans c⟩⟩⟩,⟨fun hl=>let ⟨A6,c6,a,b⟩:=(h10.out hl.b);⟨A6,c6,a,(b.keep fun b hb=>Below.heap_setCell _ _ _ _ (show b≠g by have:=hb.1;omega)).mono fun b hb=>by simpa [Rng] using hb⟩⟩,h11.k,⟨fun _=>⟨⟨L1.fwd,L2.fwd,L9.fwd,L17.fwd,L18.fwd⟩,by show _=some (Obj.cells #[.slice A0 d.jobs.length c0,.slice A1 d.released.length c1,.int .i64 d.next,.slice A2 d.ins.length c2,.slice A3 d.taken.length c3,f 69,.slice A5 d.events.length c5] _ _);rw [e18];refine (heap_set_same hg).trans ?_;simp⟩⟩⟩
       exact StepsL.nil
      ·intro l f W hR hall
       obtain ⟨hS,h0,h1,h2,h3,h4,h5,h6,h7,h8,h9,h10,h11,h12⟩:=hR
       have q0:=h0.out (hall 0 (by decide))
       have q1:=h1.out (hall 1 (by decide))
       have q2:=h2.out (hall 2 (by decide))
       have q3:=h3.out (hall 3 (by decide))
       have q4:=h4.out (hall 4 (by decide))
       have q5:=h5.out (hall 5 (by decide))
       have q6:=h6.out (hall 6 (by decide))
       have q7:=h7.out (hall 7 (by decide))
       have q8:=h8.out (hall 8 (by decide))
       have q9:=h9.out (hall 9 (by decide))
       have q10:=h10.out (hall 10 (by decide))
       have q11:=h11.out (hall 11 (by decide))
       have q12:=h12.out (hall 12 (by decide))
       clear h0 h1 h2 h3 h4 h5 h6 h7 h8 h9 h10 h11 h12
       simp only [pfs]
       obtain ⟨hB1,hB2,_,_,_,hB6,_⟩:=hS
       obtain ⟨A6,c6,e18,hO6⟩:=q10
       have hg6:=q12.2
       rw [e18] at hg6
       clear e18
       go_wp2_with fail
       go_roundw
       case rel=>exact ⟨i+1,A6,c6,by omega,by go_num,hg6,hO6,zH (hk.out.trans hB6.out),Nat.le_trans hsw hB2,hB1⟩
       case measure=>simp [intOf];omega
     ·obtain rfl:i=d.outs.length:=by omega
      rw [List.take_length] at hO
      have hres3:=(hk.out (w.heap.size+1) ⟨by omega,by have:=zgg;rw [← hNN.out] at this;omega⟩).trans hres2
      obtain ⟨crr,frr,zrr⟩:=blk hres3
      go_wp2_with fail
      refine bodyPost_ret (v:= .agg #[.slice A0 d.jobs.length c0,.slice A1 d.released.length c1,.int .i64 d.next,.slice A2 d.ins.length c2,.slice A3 d.taken.length c3,.slice A d.outs.length n,.slice A5 d.events.length c5]) (by simp [results,Try.results58,go_sem,dom_cells hres3]) rfl ?_
      rw [hNN.out] at hO hk hsw
      rw [hN1.out] at hO2 hk2 hsw2
      exact copy_end hgW0.out o5.out r5.out o9.out r9.out o13.out r13.out o17.out r17.out hne13.out hk2.out hsw2 hO2.out hk.out hsw hO (fun b hb=>dom_far (by omega)) (by simp) (by have:=(blk hgW0.out).2.2;omega) (dom_below hbr (by omega))
end Go.Proofs.Ytinlmkhlgclbfab
