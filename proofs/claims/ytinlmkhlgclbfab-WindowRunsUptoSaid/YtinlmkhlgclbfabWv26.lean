/- DomW -/
import Derived.Test.YtinlmkhlgclbfabWv15
namespace Go.Proofs.Ytinlmkhlgclbfab
open Go.RowKit
set_option maxRecDepth 100000
set_option maxHeartbeats 4000000
theorem readyOwn (d:TDom)(T:TDomS)(hb:DomSz d)(B:Nat)(w:World)(hB:B≤w.heap.size)(hd:TDom.At (Low B) w d T):
  Calls Try.prog 54 #[.agg #[.slice T.a0 d.jobs.length T.n0,.slice T.a1 d.released.length T.n1,.int .i64 d.next,.slice T.a2 d.ins.length T.n2,.slice T.a3 d.taken.length T.n3,.slice T.a4 d.outs.length T.n4,.slice T.a5 d.events.length T.n5]] w (RetDom d w):=by
 have hbd:=zH hb
 clear hb
 go_enter Try.func54,Try.ntmps54
 go_wp2_with fail
 have hz1:w.heap.size+2≤((w.alloc (.cells #[.slice T.a0 d.jobs.length T.n0,.slice T.a1 d.released.length T.n1,.int .i64 d.next,.slice T.a2 d.ins.length T.n2,.slice T.a3 d.taken.length T.n3,.slice T.a4 d.outs.length T.n4,.slice T.a5 d.events.length T.n5] 45)).alloc (.cells #[.slice none 0 0,.slice none 0 0,.int .i64 0,.slice none 0 0,.slice none 0 0,.slice none 0 0,.slice none 0 0] 45)).heap.size:=by simp
 have hw1b:Below w.heap.size w ((w.alloc (.cells #[.slice T.a0 d.jobs.length T.n0,.slice T.a1 d.released.length T.n1,.int .i64 d.next,.slice T.a2 d.ins.length T.n2,.slice T.a3 d.taken.length T.n3,.slice T.a4 d.outs.length T.n4,.slice T.a5 d.events.length T.n5] 45)).alloc (.cells #[.slice none 0 0,.slice none 0 0,.int .i64 0,.slice none 0 0,.slice none 0 0,.slice none 0 0,.slice none 0 0] 45)):=byB
 generalize hw1:(w.alloc (.cells #[.slice T.a0 d.jobs.length T.n0,.slice T.a1 d.released.length T.n1,.int .i64 d.next,.slice T.a2 d.ins.length T.n2,.slice T.a3 d.taken.length T.n3,.slice T.a4 d.outs.length T.n4,.slice T.a5 d.events.length T.n5] 45)).alloc (.cells #[.slice none 0 0,.slice none 0 0,.int .i64 0,.slice none 0 0,.slice none 0 0,.slice none 0 0,.slice none 0 0] 45)=w1 at hz1 hw1b⊢
 refine wp_region_inv [9,10,11,12,13,14,15,16,17,18,19,20,21,22,23,24] (fun l f W=>(Below w.heap.size w1 W∧w1.heap.size≤W.heap.size∧W.heap[w.heap.size+1]?=some (.cells #[.slice none 0 0,.slice none 0 0,.int .i64 0,.slice none 0 0,.slice none 0 0,.slice none 0 0,.slice none 0 0] 45)∧(¬ Lst l 13→W.heap[w.heap.size]?=some (.cells #[.slice T.a0 d.jobs.length T.n0,.slice T.a1 d.released.length T.n1,.int .i64 d.next,.slice T.a2 d.ins.length T.n2,.slice T.a3 d.taken.length T.n3,.slice T.a4 d.outs.length T.n4,.slice T.a5 d.events.length T.n5] 45))∧l.size=20)∧Fa l 0 (f 9= .pointer (some ⟨w.heap.size,0,none⟩))∧Fa l 1 (f 10= .slice T.a0 d.jobs.length T.n0)∧Fa l 2 (RzN (w.heap.size+2) W 110 6 (f 11) d.jobs.length (d.jobs.flatMap TJob.cells))∧Fa l 3 (f 12= .pointer (some ⟨w.heap.size,1,none⟩))∧Fa l 4 (f 13= .slice T.a1 d.released.length T.n1)∧Fa l 5 (Lst l 2∧RzN (w.heap.size+2) W 3 1 (f 14) d.released.length (d.released.flatMap fun n=>[Value.int .i64 n]))∧Fa l 6 (f 15= .pointer (some ⟨w.heap.size,4,none⟩))∧Fa l 7 (f 16= .slice T.a3 d.taken.length T.n3)∧Fa l 8 (Lst l 2∧Lst l 5∧(∀b,rowZ (f 17)=some b→rowZ (f 14)≠some b)∧RzN (w.heap.size+2) W 3 1 (f 17) d.taken.length (d.taken.flatMap fun n=>[Value.int .i64 n]))∧Fa l 9 (f 18= .pointer (some ⟨w.heap.size,6,none⟩))∧Fa l 10 (f 19= .slice T.a5 d.events.length T.n5)∧Fa l 11 (Lst l 2∧Lst l 5∧Lst l 8∧RzN (w.heap.size+2) W 84 4 (f 20) d.events.length (d.events.flatMap TEv.cells))∧Fa l 12 (f 21= .pointer (some ⟨w.heap.size,0,none⟩))∧Fa l 13 ((Lst l 1∧Lst l 4∧Lst l 7∧Lst l 10∧Lst l 11)∧(¬ Lst l 15→W.heap[w.heap.size]?=some (.cells #[f 11,.slice T.a1 d.released.length T.n1,.int .i64 d.next,.slice T.a2 d.ins.length T.n2,.slice T.a3 d.taken.length T.n3,.slice T.a4 d.outs.length T.n4,.slice T.a5 d.events.length T.n5] 45)))∧Fa l 14 (f 22= .pointer (some ⟨w.heap.size,1,none⟩))∧Fa l 15 (Lst l 13∧(¬ Lst l 17→W.heap[w.heap.size]?=some (.cells #[f 11,f 14,.int .i64 d.next,.slice T.a2 d.ins.length T.n2,.slice T.a3 d.taken.length T.n3,.slice T.a4 d.outs.length T.n4,.slice T.a5 d.events.length T.n5] 45)))∧Fa l 16 (f 23= .pointer (some ⟨w.heap.size,4,none⟩))∧Fa l 17 (Lst l 13∧Lst l 15∧(¬ Lst l 19→W.heap[w.heap.size]?=some (.cells #[f 11,f 14,.int .i64 d.next,.slice T.a2 d.ins.length T.n2,f 17,.slice T.a4 d.outs.length T.n4,.slice T.a5 d.events.length T.n5] 45)))∧Fa l 18 (f 24= .pointer (some ⟨w.heap.size,6,none⟩))∧Fa l 19 (Lst l 13∧Lst l 15∧Lst l 17∧W.heap[w.heap.size]?=some (.cells #[f 11,f 14,.int .i64 d.next,.slice T.a2 d.ins.length T.n2,f 17,.slice T.a4 d.outs.length T.n4,f 20] 45))) (by kernel_rfl) (by decide) (by kernel_rfl) (by intro s hs;simp at hs⊢;omega) ?_ ?_ ?_
 ·intro l hz hl
  exact ⟨⟨(Below.refl _ _).drew,Nat.le_refl _,by rw [← hw1];exact byH,fun _=>by rw [← hw1];exact byH,hz⟩,.no (hl 0),.no (hl 1),.no (hl 2),.no (hl 3),.no (hl 4),.no (hl 5),.no (hl 6),.no (hl 7),.no (hl 8),.no (hl 9),.no (hl 10),.no (hl 11),.no (hl 12),.no (hl 13),.no (hl 14),.no (hl 15),.no (hl 16),.no (hl 17),.no (hl 18),.no (hl 19)⟩
 ·refine StepsL.c 1 [] (fun l f W hR hn hb K Q2 hK=>?_) ?_
  ·obtain ⟨hS,h0,h1,h2,h3,h4,h5,h6,h7,h8,h9,h10,h11,h12,h13,h14,h15,h16,h17,h18,h19⟩:=hR
   clear hb
   refine ⟨?_⟩
   simp only [pfs] at hK⊢
   go_simp
   exact hK.out _ _ byK
  refine StepsL.c 2 [0] (fun l f W hR hn hb K Q2 hK=>?_) ?_
  ·obtain ⟨hS,h0,h1,h2,h3,h4,h5,h6,h7,h8,h9,h10,h11,h12,h13,h14,h15,h16,h17,h18,h19⟩:=hR
   have q0:=h0.out (hb 0 (by simp))
   have hbx:=hS.2.2.2.1 (fun h=>hn ((h13.out h).1.1))
   clear hb
   refine ⟨?_⟩
   simp only [pfs] at hK⊢
   (try simp only [q0] at hK)
   obtain ⟨cS,fS,zS⟩:=blk hbx
   go_simp
   exact hK.out _ _ byK
  refine StepsL.c 3 [1] (fun l f W hR hn hb K Q2 hK=>?_) ?_
  ·obtain ⟨hS,h0,h1,h2,h3,h4,h5,h6,h7,h8,h9,h10,h11,h12,h13,h14,h15,h16,h17,h18,h19⟩:=hR
   have q1:=h1.out (hb 1 (by simp))
   clear hb
   refine ⟨?_⟩
   simp only [pfs] at hK⊢
   (try simp only [q1] at hK)
   have HC:=cloneJob d.jobs T.a0 T.n0 B W (Nat.le_trans hB (hw1b.trans (hS.1.mono (by omega))).size) (hd.s0.next hB (hw1b.trans (hS.1.mono (by omega)))) hbd.out.jobs
   go_simp
   go_at_call 100
   refine HC.mono ?_
   clear HC
   rintro e w3 ⟨A3,c3,rfl,own3,hb1⟩
   have hsz:=Nat.le_trans hz1 hS.2.1
   try dsimp only
   try simp only [Act.put,List.setIfInBounds_toArray,List.set_cons_zero,List.set_cons_succ]
   refine hK.out _ _ ⟨⟨hS.1.trans (hb1.mono (by have:=hS.2.1;omega)),Nat.le_trans hS.2.1 hb1.size,(Ext.below hb1).blk hS.2.2.1,fun hn2=>(Ext.below hb1).blk (hS.2.2.2.1 fun h=>hn2 h.fwd),by simpa using hS.2.2.2.2⟩,h0.k,h1.k,⟨fun _=>⟨A3,c3,rfl,.of own3,fun b hb=>(own_lt own3 b (rowZ_own hb)).imp (fun h=>by omega) id⟩⟩,h3.k,h4.k,⟨fun hl=>absurd (h5.out hl.b).1 hn⟩,h6.k,h7.k,⟨fun hl=>absurd (h8.out hl.b).1 hn⟩,h9.k,h10.k,⟨fun hl=>absurd (h11.out hl.b).1 hn⟩,h12.k,⟨fun hl=>absurd (h11.out (h13.out hl.b).1.2.2.2.2).1 hn⟩,h14.k,⟨fun hl=>absurd (h11.out (h13.out (h15.out hl.b).1).1.2.2.2.2).1 hn⟩,h16.k,⟨fun hl=>absurd (h11.out (h13.out (h17.out hl.b).1).1.2.2.2.2).1 hn⟩,h18.k,⟨fun hl=>absurd (h11.out (h13.out (h19.out hl.b).1).1.2.2.2.2).1 hn⟩⟩
  refine StepsL.c 4 [] byOp ?_
  refine StepsL.c 5 [3] (fun l f W hR hn hb K Q2 hK=>?_) ?_
  ·obtain ⟨hS,h0,h1,h2,h3,h4,h5,h6,h7,h8,h9,h10,h11,h12,h13,h14,h15,h16,h17,h18,h19⟩:=hR
   have q3:=h3.out (hb 3 (by simp))
   have hbx:=hS.2.2.2.1 (fun h=>hn ((h13.out h).1.2.1))
   clear hb
   refine ⟨?_⟩
   simp only [pfs] at hK⊢
   (try simp only [q3] at hK)
   obtain ⟨cS,fS,zS⟩:=blk hbx
   go_simp
   exact hK.out _ _ byK
  refine StepsL.c 6 [4,2] (fun l f W hR hn hb K Q2 hK=>?_) ?_
  ·obtain ⟨hS,h0,h1,h2,h3,h4,h5,h6,h7,h8,h9,h10,h11,h12,h13,h14,h15,h16,h17,h18,h19⟩:=hR
   have q2:=h2.out (hb 2 (by simp))
   have q4:=h4.out (hb 4 (by simp))
   have hb2:=hb 2 (by simp)
   have L2:=hb2
   clear hb
   refine ⟨?_⟩
   simp only [pfs] at hK⊢
   (try simp only [q4] at hK)
   have HC:=cloneInt d.released T.a1 T.n1 B W (Nat.le_trans hB (hw1b.trans (hS.1.mono (by omega))).size) (hd.s1.next hB (hw1b.trans (hS.1.mono (by omega)))) hbd.out.rel
   go_simp
   go_at_call 101
   refine HC.mono ?_
   clear HC
   rintro e w3 ⟨A3,c3,rfl,own3,hb1⟩
   have hsz:=Nat.le_trans hz1 hS.2.1
   try dsimp only
   try simp only [Act.put,List.setIfInBounds_toArray,List.set_cons_zero,List.set_cons_succ]
   refine hK.out _ _ ⟨⟨hS.1.trans (hb1.mono (by have:=hS.2.1;omega)),Nat.le_trans hS.2.1 hb1.size,(Ext.below hb1).blk hS.2.2.1,fun hn2=>(Ext.below hb1).blk (hS.2.2.2.1 fun h=>hn2 h.fwd),by simpa using hS.2.2.2.2⟩,h0.k,h1.k,⟨fun hl=>(h2.out hl.b).ext (Ext.below hb1)⟩,h3.k,h4.k,⟨fun _=>⟨L2.fwd,A3,c3,rfl,.of own3,fun b hb=>(own_lt own3 b (rowZ_own hb)).imp (fun h=>by omega) id⟩⟩,h6.k,h7.k,⟨fun hl=>absurd (h8.out hl.b).2.1 hn⟩,h9.k,h10.k,⟨fun hl=>absurd (h11.out hl.b).2.1 hn⟩,h12.k,⟨fun hl=>absurd (h11.out (h13.out hl.b).1.2.2.2.2).2.1 hn⟩,h14.k,⟨fun hl=>absurd (h11.out (h13.out (h15.out hl.b).1).1.2.2.2.2).2.1 hn⟩,h16.k,⟨fun hl=>absurd (h11.out (h13.out (h17.out hl.b).1).1.2.2.2.2).2.1 hn⟩,h18.k,⟨fun hl=>absurd (h11.out (h13.out (h19.out hl.b).1).1.2.2.2.2).2.1 hn⟩⟩
  refine StepsL.c 7 [] byOp ?_
  refine StepsL.c 8 [6] (fun l f W hR hn hb K Q2 hK=>?_) ?_
  ·obtain ⟨hS,h0,h1,h2,h3,h4,h5,h6,h7,h8,h9,h10,h11,h12,h13,h14,h15,h16,h17,h18,h19⟩:=hR
   have q6:=h6.out (hb 6 (by simp))
   have hbx:=hS.2.2.2.1 (fun h=>hn ((h13.out h).1.2.2.1))
   clear hb
   refine ⟨?_⟩
   simp only [pfs] at hK⊢
   (try simp only [q6] at hK)
   obtain ⟨cS,fS,zS⟩:=blk hbx
   go_simp
   exact hK.out _ _ byK
  refine StepsL.c 9 [7,5] (fun l f W hR hn hb K Q2 hK=>?_) ?_
  ·obtain ⟨hS,h0,h1,h2,h3,h4,h5,h6,h7,h8,h9,h10,h11,h12,h13,h14,h15,h16,h17,h18,h19⟩:=hR
   have q5:=h5.out (hb 5 (by simp))
   have q7:=h7.out (hb 7 (by simp))
   have hb5:=hb 5 (by simp)
   have L5:=hb5
   have hp:=q5
   clear hb
   refine ⟨?_⟩
   simp only [pfs] at hK⊢
   (try simp only [q7] at hK)
   have HC:=cloneInt d.taken T.a3 T.n3 B W (Nat.le_trans hB (hw1b.trans (hS.1.mono (by omega))).size) (hd.s3.next hB (hw1b.trans (hS.1.mono (by omega)))) hbd.out.taken
   go_simp
   go_at_call 101
   refine HC.mono ?_
   clear HC
   rintro e w3 ⟨A3,c3,rfl,own3,hb1⟩
   have hsz:=Nat.le_trans hz1 hS.2.1
   try dsimp only
   try simp only [Act.put,List.setIfInBounds_toArray,List.set_cons_zero,List.set_cons_succ]
   refine hK.out _ _ ⟨⟨hS.1.trans (hb1.mono (by have:=hS.2.1;omega)),Nat.le_trans hS.2.1 hb1.size,(Ext.below hb1).blk hS.2.2.1,fun hn2=>(Ext.below hb1).blk (hS.2.2.2.1 fun h=>hn2 h.fwd),by simpa using hS.2.2.2.2⟩,h0.k,h1.k,⟨fun hl=>(h2.out hl.b).ext (Ext.below hb1)⟩,h3.k,h4.k,⟨fun hl=>⟨(h5.out hl.b).1.fwd,(h5.out hl.b).2.ext (Ext.below hb1)⟩⟩,h6.k,h7.k,⟨fun _=>⟨hp.1.fwd,L5.fwd,fun b hb hb2=>absurd (hp.2.lt b hb2) (by have:=(own_lt own3 b (rowZ_own hb)).1;omega),A3,c3,rfl,.of own3,fun b hb=>(own_lt own3 b (rowZ_own hb)).imp (fun h=>by omega) id⟩⟩,h9.k,h10.k,⟨fun hl=>absurd (h11.out hl.b).2.2.1 hn⟩,h12.k,⟨fun hl=>absurd (h11.out (h13.out hl.b).1.2.2.2.2).2.2.1 hn⟩,h14.k,⟨fun hl=>absurd (h11.out (h13.out (h15.out hl.b).1).1.2.2.2.2).2.2.1 hn⟩,h16.k,⟨fun hl=>absurd (h11.out (h13.out (h17.out hl.b).1).1.2.2.2.2).2.2.1 hn⟩,h18.k,⟨fun hl=>absurd (h11.out (h13.out (h19.out hl.b).1).1.2.2.2.2).2.2.1 hn⟩⟩
  refine StepsL.c 10 [] byOp ?_
  refine StepsL.c 11 [9] (fun l f W hR hn hb K Q2 hK=>?_) ?_
  ·obtain ⟨hS,h0,h1,h2,h3,h4,h5,h6,h7,h8,h9,h10,h11,h12,h13,h14,h15,h16,h17,h18,h19⟩:=hR
   have q9:=h9.out (hb 9 (by simp))
   have hbx:=hS.2.2.2.1 (fun h=>hn ((h13.out h).1.2.2.2.1))
   clear hb
   refine ⟨?_⟩
   simp only [pfs] at hK⊢
   (try simp only [q9] at hK)
   obtain ⟨cS,fS,zS⟩:=blk hbx
   go_simp
   exact hK.out _ _ byK
  refine StepsL.c 12 [10,8] (fun l f W hR hn hb K Q2 hK=>?_) ?_
  ·obtain ⟨hS,h0,h1,h2,h3,h4,h5,h6,h7,h8,h9,h10,h11,h12,h13,h14,h15,h16,h17,h18,h19⟩:=hR
   have q8:=h8.out (hb 8 (by simp))
   have q10:=h10.out (hb 10 (by simp))
   have hb8:=hb 8 (by simp)
   have L8:=hb8
   have hp:=q8
   clear hb
   refine ⟨?_⟩
   simp only [pfs] at hK⊢
   (try simp only [q10] at hK)
   have HC:=cloneEv d.events T.a5 T.n5 B W (Nat.le_trans hB (hw1b.trans (hS.1.mono (by omega))).size) (hd.s5.next hB (hw1b.trans (hS.1.mono (by omega)))) hbd.out.ev
   go_simp
   go_at_call 102
   refine HC.mono ?_
   clear HC
   rintro e w3 ⟨A3,c3,rfl,own3,hb1⟩
   have hsz:=Nat.le_trans hz1 hS.2.1
   try dsimp only
   try simp only [Act.put,List.setIfInBounds_toArray,List.set_cons_zero,List.set_cons_succ]
   refine hK.out _ _ ⟨⟨hS.1.trans (hb1.mono (by have:=hS.2.1;omega)),Nat.le_trans hS.2.1 hb1.size,(Ext.below hb1).blk hS.2.2.1,fun hn2=>(Ext.below hb1).blk (hS.2.2.2.1 fun h=>hn2 h.fwd),by simpa using hS.2.2.2.2⟩,h0.k,h1.k,⟨fun hl=>(h2.out hl.b).ext (Ext.below hb1)⟩,h3.k,h4.k,⟨fun hl=>⟨(h5.out hl.b).1.fwd,(h5.out hl.b).2.ext (Ext.below hb1)⟩⟩,h6.k,h7.k,⟨fun hl=>⟨(h8.out hl.b).1.fwd,(h8.out hl.b).2.1.fwd,(h8.out hl.b).2.2.1,(h8.out hl.b).2.2.2.ext (Ext.below hb1)⟩⟩,h9.k,h10.k,⟨fun _=>⟨hp.1.fwd,hp.2.1.fwd,L8.fwd,A3,c3,rfl,.of own3,fun b hb=>(own_lt own3 b (rowZ_own hb)).imp (fun h=>by omega) id⟩⟩,h12.k,⟨fun hl=>absurd (h13.out hl.b).1.2.2.2.2 hn⟩,h14.k,⟨fun hl=>absurd (h13.out (h15.out hl.b).1).1.2.2.2.2 hn⟩,h16.k,⟨fun hl=>absurd (h13.out (h17.out hl.b).1).1.2.2.2.2 hn⟩,h18.k,⟨fun hl=>absurd (h13.out (h19.out hl.b).1).1.2.2.2.2 hn⟩⟩
  refine StepsL.c 13 [0,1,2,3,4,6,7,9,10] (fun l f W hR hn hb K Q2 hK=>?_) ?_
  ·obtain ⟨hS,h0,h1,h2,h3,h4,h5,h6,h7,h8,h9,h10,h11,h12,h13,h14,h15,h16,h17,h18,h19⟩:=hR
   have q0:=h0.out (hb 0 (by simp))
   have q1:=h1.out (hb 1 (by simp))
   have q2:=h2.out (hb 2 (by simp))
   have q3:=h3.out (hb 3 (by simp))
   have q4:=h4.out (hb 4 (by simp))
   have q6:=h6.out (hb 6 (by simp))
   have q7:=h7.out (hb 7 (by simp))
   have q9:=h9.out (hb 9 (by simp))
   have q10:=h10.out (hb 10 (by simp))
   clear hb
   refine ⟨?_⟩
   simp only [pfs] at hK⊢
   (try simp only [q0,q1,q3,q4,q6,q7,q9,q10] at hK)
   go_simp
   exact hK.out _ _ byK
  refine StepsL.c 14 [12,2,11,0,1,2,3,4,6,7,9,10] (fun l f W hR hn hb K Q2 hK=>?_) ?_
  ·obtain ⟨hS,h0,h1,h2,h3,h4,h5,h6,h7,h8,h9,h10,h11,h12,h13,h14,h15,h16,h17,h18,h19⟩:=hR
   have q0:=h0.out (hb 0 (by simp))
   have q1:=h1.out (hb 1 (by simp))
   have q2:=h2.out (hb 2 (by simp))
   have q3:=h3.out (hb 3 (by simp))
   have q4:=h4.out (hb 4 (by simp))
   have q6:=h6.out (hb 6 (by simp))
   have q7:=h7.out (hb 7 (by simp))
   have q9:=h9.out (hb 9 (by simp))
   have q10:=h10.out (hb 10 (by simp))
   have q11:=h11.out (hb 11 (by simp))
   have q12:=h12.out (hb 12 (by simp))
   have hb1:=hb 1 (by simp)
   have hb4:=hb 4 (by simp)
   have hb7:=hb 7 (by simp)
   have hb10:=hb 10 (by simp)
   have hb11:=hb 11 (by simp)
   have L1:=hb1
   have L4:=hb4
   have L7:=hb7
   have L10:=hb10
   have L11:=hb11
   obtain ⟨A1,c1,e2,_,_⟩:=q2
   have hbx:=hS.2.2.2.1 hn
   clear hb
   refine ⟨?_⟩
   simp only [pfs] at hK⊢
   (try simp only [q0,q1,q3,q4,q6,q7,q9,q10,q12,e2] at hK)
   obtain ⟨cS,fS,zS⟩:=blk hbx
   go_simp
   refine hK.out undef (W.setCell ⟨w.heap.size,0,none⟩ (.slice A1 d.jobs.length c1)) ⟨⟨hS.1.setCell (by simp) _,by simpa using hS.2.1,(Below.heap_setCell _ _ _ _ (show w.heap.size+1≠w.heap.size by omega)).trans hS.2.2.1,fun hn2=>absurd (Lst.self (by rw [hS.2.2.2.2];omega)) hn2,by simpa using hS.2.2.2.2⟩,h0.k,h1.k,⟨fun hl=>(h2.out hl.b).keep (fun b hb=>Below.heap_setCell _ _ _ _ (show b≠w.heap.size by have:=(h2.out hl.b).lo b hb;omega)) (by simp)⟩,h3.k,h4.k,⟨fun hl=>⟨(h5.out hl.b).1.fwd,(h5.out hl.b).2.keep (fun b hb=>Below.heap_setCell _ _ _ _ (show b≠w.heap.size by have:=(h5.out hl.b).2.lo b hb;omega)) (by simp)⟩⟩,h6.k,h7.k,⟨fun hl=>⟨(h8.out hl.b).1.fwd,(h8.out hl.b).2.1.fwd,(h8.out hl.b).2.2.1,(h8.out hl.b).2.2.2.keep (fun b hb=>Below.heap_setCell _ _ _ _ (show b≠w.heap.size by have:=(h8.out hl.b).2.2.2.lo b hb;omega)) (by simp)⟩⟩,h9.k,h10.k,⟨fun hl=>⟨(h11.out hl.b).1.fwd,(h11.out hl.b).2.1.fwd,(h11.out hl.b).2.2.1.fwd,(h11.out hl.b).2.2.2.keep (fun b hb=>Below.heap_setCell _ _ _ _ (show b≠w.heap.size by have:=(h11.out hl.b).2.2.2.lo b hb;omega)) (by simp)⟩⟩,h12.k,⟨fun _=>⟨⟨L1.fwd,L4.fwd,L7.fwd,L10.fwd,L11.fwd⟩,fun _=>by show _=some (Obj.cells #[f 11,.slice T.a1 d.released.length T.n1,.int .i64 d.next,.slice T.a2 d.ins.length T.n2,.slice T.a3 d.taken.length T.n3,.slice T.a4 d.outs.length T.n4,.slice T.a5 d.events.length T.n5] _ _);rw [e2];refine (heap_set_same hbx).trans ?_;simp⟩⟩,h14.k,⟨fun hl=>absurd (h15.out hl.b).1 hn⟩,h16.k,⟨fun hl=>absurd (h17.out hl.b).1 hn⟩,h18.k,⟨fun hl=>absurd (h19.out hl.b).1 hn⟩⟩
  refine StepsL.c 15 [0,1,2,3,4,5,6,7,9,10,12,13] (fun l f W hR hn hb K Q2 hK=>?_) ?_
  ·obtain ⟨hS,h0,h1,h2,h3,h4,h5,h6,h7,h8,h9,h10,h11,h12,h13,h14,h15,h16,h17,h18,h19⟩:=hR
   have q0:=h0.out (hb 0 (by simp))
   have q1:=h1.out (hb 1 (by simp))
   have q2:=h2.out (hb 2 (by simp))
   have q3:=h3.out (hb 3 (by simp))
   have q4:=h4.out (hb 4 (by simp))
   have q5:=h5.out (hb 5 (by simp))
   have q6:=h6.out (hb 6 (by simp))
   have q7:=h7.out (hb 7 (by simp))
   have q9:=h9.out (hb 9 (by simp))
   have q10:=h10.out (hb 10 (by simp))
   have q12:=h12.out (hb 12 (by simp))
   have q13:=h13.out (hb 13 (by simp))
   clear hb
   refine ⟨?_⟩
   simp only [pfs] at hK⊢
   (try simp only [q0,q1,q3,q4,q6,q7,q9,q10,q12] at hK)
   go_simp
   exact hK.out _ _ byK
  refine StepsL.c 16 [14,5,13,0,1,2,3,4,5,6,7,9,10,12,13] (fun l f W hR hn hb K Q2 hK=>?_) ?_
  ·obtain ⟨hS,h0,h1,h2,h3,h4,h5,h6,h7,h8,h9,h10,h11,h12,h13,h14,h15,h16,h17,h18,h19⟩:=hR
   have q0:=h0.out (hb 0 (by simp))
   have q1:=h1.out (hb 1 (by simp))
   have q2:=h2.out (hb 2 (by simp))
   have q3:=h3.out (hb 3 (by simp))
   have q4:=h4.out (hb 4 (by simp))
   have q5:=h5.out (hb 5 (by simp))
   have q6:=h6.out (hb 6 (by simp))
   have q7:=h7.out (hb 7 (by simp))
   have q9:=h9.out (hb 9 (by simp))
   have q10:=h10.out (hb 10 (by simp))
   have q12:=h12.out (hb 12 (by simp))
   have q13:=h13.out (hb 13 (by simp))
   have q14:=h14.out (hb 14 (by simp))
   have hb1:=hb 1 (by simp)
   have hb13:=hb 13 (by simp)
   have L13:=hb13
   obtain ⟨A1,c1,e2,_,_⟩:=q2
   obtain ⟨A2,c2,e5,_,_⟩:=q5.2
   have hbx:=q13.2 hn
   rw [e2] at hbx
   clear hb
   refine ⟨?_⟩
   simp only [pfs] at hK⊢
   (try simp only [q0,q1,q3,q4,q6,q7,q9,q10,q12,q14,e2,e5] at hK)
   obtain ⟨cS,fS,zS⟩:=blk hbx
   go_simp
   refine hK.out undef (W.setCell ⟨w.heap.size,1,none⟩ (.slice A2 d.released.length c2)) ⟨⟨hS.1.setCell (by simp) _,by simpa using hS.2.1,(Below.heap_setCell _ _ _ _ (show w.heap.size+1≠w.heap.size by omega)).trans hS.2.2.1,fun hn2=>absurd (Lst.fwd L13) hn2,by simpa using hS.2.2.2.2⟩,h0.k,h1.k,⟨fun hl=>(h2.out hl.b).keep (fun b hb=>Below.heap_setCell _ _ _ _ (show b≠w.heap.size by have:=(h2.out hl.b).lo b hb;omega)) (by simp)⟩,h3.k,h4.k,⟨fun hl=>⟨(h5.out hl.b).1.fwd,(h5.out hl.b).2.keep (fun b hb=>Below.heap_setCell _ _ _ _ (show b≠w.heap.size by have:=(h5.out hl.b).2.lo b hb;omega)) (by simp)⟩⟩,h6.k,h7.k,⟨fun hl=>⟨(h8.out hl.b).1.fwd,(h8.out hl.b).2.1.fwd,(h8.out hl.b).2.2.1,(h8.out hl.b).2.2.2.keep (fun b hb=>Below.heap_setCell _ _ _ _ (show b≠w.heap.size by have:=(h8.out hl.b).2.2.2.lo b hb;omega)) (by simp)⟩⟩,h9.k,h10.k,⟨fun hl=>⟨(h11.out hl.b).1.fwd,(h11.out hl.b).2.1.fwd,(h11.out hl.b).2.2.1.fwd,(h11.out hl.b).2.2.2.keep (fun b hb=>Below.heap_setCell _ _ _ _ (show b≠w.heap.size by have:=(h11.out hl.b).2.2.2.lo b hb;omega)) (by simp)⟩⟩,h12.k,⟨fun hl=>⟨⟨(h13.out hl.b).1.1.fwd,(h13.out hl.b).1.2.1.fwd,(h13.out hl.b).1.2.2.1.fwd,(h13.out hl.b).1.2.2.2.1.fwd,(h13.out hl.b).1.2.2.2.2.fwd⟩,fun hn2=>absurd (Lst.self (by rw [hS.2.2.2.2];omega)) hn2⟩⟩,h14.k,⟨fun _=>⟨L13.fwd,fun _=>by show _=some (Obj.cells #[f 11,f 14,.int .i64 d.next,.slice T.a2 d.ins.length T.n2,.slice T.a3 d.taken.length T.n3,.slice T.a4 d.outs.length T.n4,.slice T.a5 d.events.length T.n5] _ _);rw [e2,e5];refine (heap_set_same hbx).trans ?_;simp⟩⟩,h16.k,⟨fun hl=>absurd (h17.out hl.b).2.1 hn⟩,h18.k,⟨fun hl=>absurd (h19.out hl.b).2.1 hn⟩⟩
  refine StepsL.c 17 [0,1,2,3,4,5,6,7,8,9,10,12,13,14,15] (fun l f W hR hn hb K Q2 hK=>?_) ?_
  ·obtain ⟨hS,h0,h1,h2,h3,h4,h5,h6,h7,h8,h9,h10,h11,h12,h13,h14,h15,h16,h17,h18,h19⟩:=hR
   have q0:=h0.out (hb 0 (by simp))
   have q1:=h1.out (hb 1 (by simp))
   have q2:=h2.out (hb 2 (by simp))
   have q3:=h3.out (hb 3 (by simp))
   have q4:=h4.out (hb 4 (by simp))
   have q5:=h5.out (hb 5 (by simp))
   have q6:=h6.out (hb 6 (by simp))
   have q7:=h7.out (hb 7 (by simp))
   have q8:=h8.out (hb 8 (by simp))
   have q9:=h9.out (hb 9 (by simp))
   have q10:=h10.out (hb 10 (by simp))
   have q12:=h12.out (hb 12 (by simp))
   have q13:=h13.out (hb 13 (by simp))
   have q14:=h14.out (hb 14 (by simp))
   have q15:=h15.out (hb 15 (by simp))
   clear hb
   refine ⟨?_⟩
   simp only [pfs] at hK⊢
   (try simp only [q0,q1,q3,q4,q6,q7,q9,q10,q12,q14] at hK)
   go_simp
   exact hK.out _ _ byK
  refine StepsL.c 18 [16,8,15,0,1,2,3,4,5,6,7,8,9,10,12,13,14,15] (fun l f W hR hn hb K Q2 hK=>?_) ?_
  ·obtain ⟨hS,h0,h1,h2,h3,h4,h5,h6,h7,h8,h9,h10,h11,h12,h13,h14,h15,h16,h17,h18,h19⟩:=hR
   have q0:=h0.out (hb 0 (by simp))
   have q1:=h1.out (hb 1 (by simp))
   have q2:=h2.out (hb 2 (by simp))
   have q3:=h3.out (hb 3 (by simp))
   have q4:=h4.out (hb 4 (by simp))
   have q5:=h5.out (hb 5 (by simp))
   have q6:=h6.out (hb 6 (by simp))
   have q7:=h7.out (hb 7 (by simp))
   have q8:=h8.out (hb 8 (by simp))
   have q9:=h9.out (hb 9 (by simp))
   have q10:=h10.out (hb 10 (by simp))
   have q12:=h12.out (hb 12 (by simp))
   have q13:=h13.out (hb 13 (by simp))
   have q14:=h14.out (hb 14 (by simp))
   have q15:=h15.out (hb 15 (by simp))
   have q16:=h16.out (hb 16 (by simp))
   have hb1:=hb 1 (by simp)
   have hb13:=hb 13 (by simp)
   have hb15:=hb 15 (by simp)
   have L13:=hb13
   have L15:=hb15
   obtain ⟨A1,c1,e2,_,_⟩:=q2
   obtain ⟨A2,c2,e5,_,_⟩:=q5.2
   obtain ⟨A4,c4,e8,_,_⟩:=q8.2.2.2
   have hbx:=q15.2 hn
   rw [e2,e5] at hbx
   clear hb
   refine ⟨?_⟩
   simp only [pfs] at hK⊢
   (try simp only [q0,q1,q3,q4,q6,q7,q9,q10,q12,q14,q16,e2,e5,e8] at hK)
   obtain ⟨cS,fS,zS⟩:=blk hbx
   go_simp
   refine hK.out undef (W.setCell ⟨w.heap.size,4,none⟩ (.slice A4 d.taken.length c4)) ⟨⟨hS.1.setCell (by simp) _,by simpa using hS.2.1,(Below.heap_setCell _ _ _ _ (show w.heap.size+1≠w.heap.size by omega)).trans hS.2.2.1,fun hn2=>absurd (Lst.fwd L13) hn2,by simpa using hS.2.2.2.2⟩,h0.k,h1.k,⟨fun hl=>(h2.out hl.b).keep (fun b hb=>Below.heap_setCell _ _ _ _ (show b≠w.heap.size by have:=(h2.out hl.b).lo b hb;omega)) (by simp)⟩,h3.k,h4.k,⟨fun hl=>⟨(h5.out hl.b).1.fwd,(h5.out hl.b).2.keep (fun b hb=>Below.heap_setCell _ _ _ _ (show b≠w.heap.size by have:=(h5.out hl.b).2.lo b hb;omega)) (by simp)⟩⟩,h6.k,h7.k,⟨fun hl=>⟨(h8.out hl.b).1.fwd,(h8.out hl.b).2.1.fwd,(h8.out hl.b).2.2.1,(h8.out hl.b).2.2.2.keep (fun b hb=>Below.heap_setCell _ _ _ _ (show b≠w.heap.size by have:=(h8.out hl.b).2.2.2.lo b hb;omega)) (by simp)⟩⟩,h9.k,h10.k,⟨fun hl=>⟨(h11.out hl.b).1.fwd,(h11.out hl.b).2.1.fwd,(h11.out hl.b).2.2.1.fwd,(h11.out hl.b).2.2.2.keep (fun b hb=>Below.heap_setCell _ _ _ _ (show b≠w.heap.size by have:=(h11.out hl.b).2.2.2.lo b hb;omega)) (by simp)⟩⟩,h12.k,⟨fun hl=>⟨⟨(h13.out hl.b).1.1.fwd,(h13.out hl.b).1.2.1.fwd,(h13.out hl.b).1.2.2.1.fwd,(h13.out hl.b).1.2.2.2.1.fwd,(h13.out hl.b).1.2.2.2.2.fwd⟩,fun hn2=>absurd (Lst.fwd L15) hn2⟩⟩,h14.k,⟨fun hl=>⟨(h15.out hl.b).1.fwd,fun hn2=>absurd (Lst.self (by rw [hS.2.2.2.2];omega)) hn2⟩⟩,h16.k,⟨fun _=>⟨L13.fwd,L15.fwd,fun _=>by show _=some (Obj.cells #[f 11,f 14,.int .i64 d.next,.slice T.a2 d.ins.length T.n2,f 17,.slice T.a4 d.outs.length T.n4,.slice T.a5 d.events.length T.n5] _ _);rw [e2,e5,e8];refine (heap_set_same hbx).trans ?_;simp⟩⟩,h18.k,⟨fun hl=>absurd (h19.out hl.b).2.2.1 hn⟩⟩
  refine StepsL.c 19 [0,1,2,3,4,5,6,7,8,9,10,11,12,13,14,15,16,17] (fun l f W hR hn hb K Q2 hK=>?_) ?_
  ·obtain ⟨hS,h0,h1,h2,h3,h4,h5,h6,h7,h8,h9,h10,h11,h12,h13,h14,h15,h16,h17,h18,h19⟩:=hR
   have q0:=h0.out (hb 0 (by simp))
   have q1:=h1.out (hb 1 (by simp))
   have q2:=h2.out (hb 2 (by simp))
   have q3:=h3.out (hb 3 (by simp))
   have q4:=h4.out (hb 4 (by simp))
   have q5:=h5.out (hb 5 (by simp))
   have q6:=h6.out (hb 6 (by simp))
   have q7:=h7.out (hb 7 (by simp))
   have q8:=h8.out (hb 8 (by simp))
   have q9:=h9.out (hb 9 (by simp))
   have q10:=h10.out (hb 10 (by simp))
   have q11:=h11.out (hb 11 (by simp))
   have q12:=h12.out (hb 12 (by simp))
   have q13:=h13.out (hb 13 (by simp))
   have q14:=h14.out (hb 14 (by simp))
   have q15:=h15.out (hb 15 (by simp))
   have q16:=h16.out (hb 16 (by simp))
   have q17:=h17.out (hb 17 (by simp))
   clear hb
   refine ⟨?_⟩
   simp only [pfs] at hK⊢
   (try simp only [q0,q1,q3,q4,q6,q7,q9,q10,q12,q14,q16] at hK)
   go_simp
   exact hK.out _ _ byK
  refine StepsL.c 20 [18,11,17,0,1,2,3,4,5,6,7,8,9,10,11,12,13,14,15,16,17] (fun l f W hR hn hb K Q2 hK=>?_) ?_
  ·obtain ⟨hS,h0,h1,h2,h3,h4,h5,h6,h7,h8,h9,h10,h11,h12,h13,h14,h15,h16,h17,h18,h19⟩:=hR
   have q0:=h0.out (hb 0 (by simp))
   have q1:=h1.out (hb 1 (by simp))
   have q2:=h2.out (hb 2 (by simp))
   have q3:=h3.out (hb 3 (by simp))
   have q4:=h4.out (hb 4 (by simp))
   have q5:=h5.out (hb 5 (by simp))
   have q6:=h6.out (hb 6 (by simp))
   have q7:=h7.out (hb 7 (by simp))
   have q8:=h8.out (hb 8 (by simp))
   have q9:=h9.out (hb 9 (by simp))
   have q10:=h10.out (hb 10 (by simp))
   have q11:=h11.out (hb 11 (by simp))
   have q12:=h12.out (hb 12 (by simp))
   have q13:=h13.out (hb 13 (by simp))
   have q14:=h14.out (hb 14 (by simp))
   have q15:=h15.out (hb 15 (by simp))
   have q16:=h16.out (hb 16 (by simp))
   have q17:=h17.out (hb 17 (by simp))
   have q18:=h18.out (hb 18 (by simp))
   have hb1:=hb 1 (by simp)
   have hb13:=hb 13 (by simp)
   have hb15:=hb 15 (by simp)
   have hb17:=hb 17 (by simp)
   have L13:=hb13
   have L15:=hb15
   have L17:=hb17
   obtain ⟨A1,c1,e2,_,_⟩:=q2
   obtain ⟨A2,c2,e5,_,_⟩:=q5.2
   obtain ⟨A4,c4,e8,_,_⟩:=q8.2.2.2
   obtain ⟨A5,c5,e11,_,_⟩:=q11.2.2.2
   have hbx:=q17.2.2 hn
   rw [e2,e5,e8] at hbx
   clear hb
   refine ⟨?_⟩
   simp only [pfs] at hK⊢
   (try simp only [q0,q1,q3,q4,q6,q7,q9,q10,q12,q14,q16,q18,e2,e5,e8,e11] at hK)
   obtain ⟨cS,fS,zS⟩:=blk hbx
   go_simp
   refine hK.out undef (W.setCell ⟨w.heap.size,6,none⟩ (.slice A5 d.events.length c5)) ⟨⟨hS.1.setCell (by simp) _,by simpa using hS.2.1,(Below.heap_setCell _ _ _ _ (show w.heap.size+1≠w.heap.size by omega)).trans hS.2.2.1,fun hn2=>absurd (Lst.fwd L13) hn2,by simpa using hS.2.2.2.2⟩,h0.k,h1.k,⟨fun hl=>(h2.out hl.b).keep (fun b hb=>Below.heap_setCell _ _ _ _ (show b≠w.heap.size by have:=(h2.out hl.b).lo b hb;omega)) (by simp)⟩,h3.k,h4.k,⟨fun hl=>⟨(h5.out hl.b).1.fwd,(h5.out hl.b).2.keep (fun b hb=>Below.heap_setCell _ _ _ _ (show b≠w.heap.size by have:=(h5.out hl.b).2.lo b hb;omega)) (by simp)⟩⟩,h6.k,h7.k,⟨fun hl=>⟨(h8.out hl.b).1.fwd,(h8.out hl.b).2.1.fwd,(h8.out hl.b).2.2.1,(h8.out hl.b).2.2.2.keep (fun b hb=>Below.heap_setCell _ _ _ _ (show b≠w.heap.size by have:=(h8.out hl.b).2.2.2.lo b hb;omega)) (by simp)⟩⟩,h9.k,h10.k,⟨fun hl=>⟨(h11.out hl.b).1.fwd,(h11.out hl.b).2.1.fwd,(h11.out hl.b).2.2.1.fwd,(h11.out hl.b).2.2.2.keep (fun b hb=>Below.heap_setCell _ _ _ _ (show b≠w.heap.size by have:=(h11.out hl.b).2.2.2.lo b hb;omega)) (by simp)⟩⟩,h12.k,⟨fun hl=>⟨⟨(h13.out hl.b).1.1.fwd,(h13.out hl.b).1.2.1.fwd,(h13.out hl.b).1.2.2.1.fwd,(h13.out hl.b).1.2.2.2.1.fwd,(h13.out hl.b).1.2.2.2.2.fwd⟩,fun hn2=>absurd (Lst.fwd L15) hn2⟩⟩,h14.k,⟨fun hl=>⟨(h15.out hl.b).1.fwd,fun hn2=>absurd (Lst.fwd L17) hn2⟩⟩,h16.k,⟨fun hl=>⟨(h17.out hl.b).1.fwd,(h17.out hl.b).2.1.fwd,fun hn2=>absurd (Lst.self (by rw [hS.2.2.2.2];omega)) hn2⟩⟩,h18.k,⟨fun _=>⟨L13.fwd,L15.fwd,L17.fwd,by show _=some (Obj.cells #[f 11,f 14,.int .i64 d.next,.slice T.a2 d.ins.length T.n2,f 17,.slice T.a4 d.outs.length T.n4,f 20] _ _);rw [e2,e5,e8,e11];refine (heap_set_same hbx).trans ?_;simp⟩⟩⟩
  exact StepsL.nil
 ·intro l f W hR hall
  obtain ⟨hS,h0,h1,h2,h3,h4,h5,h6,h7,h8,h9,h10,h11,h12,h13,h14,h15,h16,h17,h18,h19⟩:=hR
  have q0:=h0.out (hall 0 (by decide))
  have q1:=h1.out (hall 1 (by decide))
  have q2:=h2.out (hall 2 (by decide))
  have q3:=h3.out (hall 3 (by decide))
  have q4:=h4.out (hall 4 (by decide))
  have q5:=h5.out (hall 5 (by decide))
  have q6:=h6.out (hall 6 (by decide))
  have q7:=h7.out (hall 7 (by decide))
  have q8:=h8.out (hall 8 (by decide))
  have q9:=h9.out (hall 9 (by decide))
  have q10:=h10.out (hall 10 (by decide))
  have q11:=h11.out (hall 11 (by decide))
  have q12:=h12.out (hall 12 (by decide))
  have q13:=h13.out (hall 13 (by decide))
  have q14:=h14.out (hall 14 (by decide))
  have q15:=h15.out (hall 15 (by decide))
  have q16:=h16.out (hall 16 (by decide))
  have q17:=h17.out (hall 17 (by decide))
  have q18:=h18.out (hall 18 (by decide))
  have q19:=h19.out (hall 19 (by decide))
  clear h0 h1 h2 h3 h4 h5 h6 h7 h8 h9 h10 h11 h12 h13 h14 h15 h16 h17 h18 h19
  obtain ⟨A0,c0,e5,o5,r5⟩:=q2
  obtain ⟨_,A1,c1,e9,o9,r9⟩:=q5
  obtain ⟨_,_,hne13,A3,c3,e13,o13,r13⟩:=q8
  obtain ⟨_,_,_,A5,c5,e17,o17,r17⟩:=q11
  have hbox:=q19.2.2.2
  have hgW:=hbox
  rw [e5,e9,e13,e17] at hbox
  rw [e5] at o5 r5
  rw [e9] at o9 r9 hne13
  rw [e13] at o13 r13 hne13
  rw [e17] at o17 r17
  have hres:=hS.2.2.1
  have hW2:=Nat.le_trans hz1 hS.2.1
  have hBW:Below w.heap.size w W:=hw1b.trans hS.1
  simp only [putF,Act.put,List.setIfInBounds_toArray,List.set_cons_zero,List.set_cons_succ,e5,e9,e13,e17]
  clear q0 q1 q3 q4 q6 q7 q9 q10 q12 q13 q14 q15 q16 q17 q18 q19 hgW e5 e9 e13 e17 hall hS hw1b hz1 hw1
  clear w1
  obtain ⟨x0,k0,x1,k1,x2,k2,x3,k3,x4,k4,x5,k5⟩:=T
  obtain ⟨hd0,hd1,hd2,hd3,hd4,hd5⟩:=hd
  dsimp only at hd0 hd1 hd2 hd3 hd4 hd5 hbox⊢
  have m2:=Nat.le_trans hd2.cap hd2.max
  have m4:=Nat.le_trans hd4.cap hd4.max
  unfold maxLen at m2 m4
  clear hd0 hd1 hd3 hd5
  obtain ⟨NN,hNN⟩:∃n,n=W.heap.size:=⟨_,rfl⟩
  rw [← hNN] at hW2
  replace hNN:=zH hNN
  replace hne13:=zH hne13
  replace r5:=zH r5;replace r9:=zH r9;replace r13:=zH r13;replace r17:=zH r17
  replace o5:=zH o5;replace o9:=zH o9;replace o13:=zH o13;replace o17:=zH o17
  obtain ⟨cb,fb,zb⟩:=blk hbox
  go_wp2_with fail
  clear cb fb
  go_loopw [3,28] (fun ov iv wr=>∃(i:Nat) (A:Option Addr) (n:Nat),i≤d.ins.length∧iv= .int .i64 i∧ov= .slice A i n∧OZl oRing 113 (Rng NN wr.heap.size) wr (.slice A i n) (d.ins.take i)∧Hid (KeepI (Low NN) W wr)∧NN≤wr.heap.size∧Below w.heap.size w wr) (fun _ iv _=>d.ins.length - (intOf iv).toNat)
  case atStart=>exact ⟨0,none,0,Nat.zero_le _,rfl,rfl,OZl.nil _ _ _ _,zH (KeepI.refl _ _),by rw [hNN.out];exact Nat.le_refl _,hBW⟩
  case round=>
   obtain ⟨i,A,n,hi,rfl,rfl,hO,hk,hsw,hbr⟩:=hrel
   by_cases hlt:i < d.ins.length
   ·have hi0:(0:Int)≤i:=by omega
    have hi1:(i:Int) < d.ins.length:=by omega
    obtain ⟨b,o,A9,c9,rfl,hI,hc0,hc1,hv9⟩:=(hd2.next hB hbr).at_ring hlt
    have hI:=Nat.lt_of_lt_of_le hI hB
    have hvb:=hbd.out.vals i hlt
    have hib:=hbd.out.ins
    obtain ⟨vs,hvs⟩:∃v,v=(nth d.ins i).vals:=⟨_,rfl⟩
    obtain ⟨lost,hlost⟩:∃v,v=(nth d.ins i).lost:=⟨_,rfl⟩
    have hx:(⟨vs,lost⟩:TRing)=nth d.ins i:=by rw [hvs,hlost]
    rw [← hvs] at hc0 hv9 hvb
    rw [← hlost] at hc1
    replace hx:=zH hx
    clear hvs hlost
    have hbl:b < wr.heap.size:=by omega
    have hv9:Sl cInt (Low B) wr A9 c9 vs:=hv9
    have hwN:w.heap.size < wr.heap.size:=by omega
    go_wp2_with fail
    refine wp_region_inv [32,33,34,35,36,37,38,39,40,3] (fun l f W=>(Below w.heap.size w W∧wr.heap.size+1≤W.heap.size∧W.heap[wr.heap.size]?=some (.cells #[.slice A9 vs.length c9,.int .i64 lost] 113)∧(Lst l 8∨OZl oRing 113 (Rng NN wr.heap.size) W (.slice A i n) (d.ins.take i))∧(Lst l 9∨f 3= .slice A i n)∧Hid (KeepI (Low NN) wr W)∧l.size=10)∧Fa l 0 (f 32= .slice A i n)∧Fa l 1 (f 33= .pointer (some ⟨wr.heap.size,0,none⟩))∧Fa l 2 (f 34= .slice A9 vs.length c9)∧Fa l 3 (RzN (wr.heap.size+1) W 3 1 (f 35) vs.length (vs.flatMap fun n=>[Value.int .i64 n]))∧Fa l 4 (f 36= .pointer (some ⟨wr.heap.size,1,none⟩))∧Fa l 5 (f 37= .int .i64 lost)∧Fa l 6 (Lst l 3∧f 38= .agg #[f 35,.int .i64 lost])∧Fa l 7 (Lst l 3∧∃gr,f 39= .slice (some ⟨gr,0,none⟩) 1 1∧wr.heap.size < gr∧W.heap[gr]?=some (.cells #[f 35,.int .i64 lost] 113))∧Fa l 8 (Lst l 0∧∃A6 c6,f 40= .slice A6 (i+1) c6∧OZl oRing 113 (Rng NN W.heap.size) W (.slice A6 (i+1) c6) (d.ins.take (i+1)))∧Fa l 9 (Lst l 0∧Lst l 3∧Lst l 7∧Lst l 8∧f 3=f 40)) (by kernel_rfl) (by decide) (by kernel_rfl) (by intro s hs;simp at hs⊢;omega) ?_ ?_ ?_
    ·intro l hz hl
     exact ⟨⟨byB,by simp,byH,.inr (hO.keep fun b hb=>(by have hl:=hb.2;exact (heap_alloc_old _ _ (by omega)))),.inr rfl,zH (show KeepI (Low NN) wr _ from byI),hz⟩,.no (hl 0),.no (hl 1),.no (hl 2),.no (hl 3),.no (hl 4),.no (hl 5),.no (hl 6),.no (hl 7),.no (hl 8),.no (hl 9)⟩
    ·refine StepsL.c 1 [] (fun l f W hR hn hb K Q2 hK=>?_) ?_
     ·obtain ⟨hS,h0,h1,h2,h3,h4,h5,h6,h7,h8,h9⟩:=hR
      have hs3:=hS.2.2.2.2.1.resolve_left (fun h=>hn (h9.out h).1)
      clear hb
      refine ⟨?_⟩
      simp only [pfs] at hK⊢
      (try simp only [hs3] at hK)
      go_simp
      refine hK.out _ _ ⟨⟨hS.1,hS.2.1,hS.2.2.1,hS.2.2.2.1.imp Lst.fwd id,hS.2.2.2.2.1.imp Lst.fwd id,hS.2.2.2.2.2.1,by simpa using hS.2.2.2.2.2.2⟩,⟨fun _=>rfl⟩,h1.k,h2.k,h3.k,h4.k,h5.k,h6.m,h7.m,⟨fun hl=>absurd (h8.out hl.b).1 hn⟩,⟨fun hl=>absurd (h9.out hl.b).1 hn⟩⟩
     refine StepsL.c 2 [] byOp ?_
     refine StepsL.c 3 [1] (fun l f W hR hn hb K Q2 hK=>?_) ?_
     ·obtain ⟨hS,h0,h1,h2,h3,h4,h5,h6,h7,h8,h9⟩:=hR
      have q1:=h1.out (hb 1 (by simp))
      clear hb
      refine ⟨?_⟩
      simp only [pfs] at hK⊢
      (try simp only [q1] at hK)
      obtain ⟨cS,fS,zS⟩:=blk hS.2.2.1
      go_simp
      exact hK.out _ _ byK
     refine StepsL.c 4 [2] (fun l f W hR hn hb K Q2 hK=>?_) ?_
     ·obtain ⟨hS,h0,h1,h2,h3,h4,h5,h6,h7,h8,h9⟩:=hR
      have q2:=h2.out (hb 2 (by simp))
      clear hb
      refine ⟨?_⟩
      simp only [pfs] at hK⊢
      (try simp only [q2] at hK)
      have hsz:=hS.2.1
      have HC:=cloneInt vs A9 c9 B W (by omega) (hv9.keep fun b hb=>hS.2.2.2.2.2.1.out b (by simp only [Low] at hb⊢;omega)) (by omega)
      go_simp
      go_at_call 101
      refine HC.mono ?_
      clear HC
      rintro e w3 ⟨A7,c7,rfl,own3,hb1⟩
      try dsimp only
      try simp only [Act.put,List.setIfInBounds_toArray,List.set_cons_zero,List.set_cons_succ]
      refine hK.out _ _ ⟨⟨hS.1.trans (hb1.mono (by have:=hS.2.1;omega)),Nat.le_trans hS.2.1 (Ext.below hb1).size,(Ext.below hb1).blk hS.2.2.1,hS.2.2.2.1.imp Lst.fwd (fun h=>h.keep fun b hb=>(Ext.below hb1).at_ b (by have:=hb.2;have:=hS.2.1;omega)),hS.2.2.2.2.1.imp Lst.fwd id,zH (fun b hb=>((Ext.below hb1).at_ b (by simp only [Low] at hb;have:=hS.2.1;omega)).trans (hS.2.2.2.2.2.1.out b hb)),by simpa using hS.2.2.2.2.2.2⟩,h0.k,h1.k,h2.k,⟨fun _=>⟨A7,c7,rfl,.of own3,fun b hb=>(own_lt own3 b (rowZ_own hb)).imp (fun h=>by omega) id⟩⟩,h4.k,h5.k,⟨fun hl=>absurd (h6.out hl.b).1 hn⟩,⟨fun hl=>absurd (h7.out hl.b).1 hn⟩,⟨fun hl=>⟨(h8.out hl.b).1.fwd,let ⟨A6,c6,a,b⟩:=(h8.out hl.b).2;⟨A6,c6,a,(b.keep fun b hb=>(Ext.below hb1).at_ b hb.2).mono fun b hb=>⟨hb.1,Nat.lt_of_lt_of_le hb.2 (Ext.below hb1).size⟩⟩⟩⟩,⟨fun hl=>absurd (h9.out hl.b).2.1 hn⟩⟩
     refine StepsL.c 5 [] byOp ?_
     refine StepsL.c 6 [4] (fun l f W hR hn hb K Q2 hK=>?_) ?_
     ·obtain ⟨hS,h0,h1,h2,h3,h4,h5,h6,h7,h8,h9⟩:=hR
      have q4:=h4.out (hb 4 (by simp))
      clear hb
      refine ⟨?_⟩
      simp only [pfs] at hK⊢
      (try simp only [q4] at hK)
      obtain ⟨cS,fS,zS⟩:=blk hS.2.2.1
      go_simp
      exact hK.out _ _ byK
     refine StepsL.c 7 [3,5] (fun l f W hR hn hb K Q2 hK=>?_) ?_
     ·obtain ⟨hS,h0,h1,h2,h3,h4,h5,h6,h7,h8,h9⟩:=hR
      have q3:=h3.out (hb 3 (by simp))
      have q5:=h5.out (hb 5 (by simp))
      have hb3:=hb 3 (by simp)
      have L3:=hb3
      obtain ⟨A7,c7,e9,_,_⟩:=q3
      clear hb
      refine ⟨?_⟩
      simp only [pfs] at hK⊢
      (try simp only [q5,e9] at hK)
      go_simp
      refine hK.out _ _ ⟨⟨hS.1,hS.2.1,hS.2.2.1,hS.2.2.2.1.imp Lst.fwd id,hS.2.2.2.2.1.imp Lst.fwd id,hS.2.2.2.2.2.1,by simpa using hS.2.2.2.2.2.2⟩,h0.k,h1.k,h2.k,h3.k,h4.k,h5.k,⟨fun _=>⟨L3.fwd,by simp [upd,e9]⟩⟩,h7.m,h8.m,h9.m⟩
     refine StepsL.c 8 [6] (fun l f W hR hn hb K Q2 hK=>?_) ?_
     ·obtain ⟨hS,h0,h1,h2,h3,h4,h5,h6,h7,h8,h9⟩:=hR
      have q6:=h6.out (hb 6 (by simp))
      have L3:=q6.1
      have q6:=q6.2
      have q9:=h3.out L3
      obtain ⟨A7,c7,e9,_,_⟩:=q9
      rw [e9] at q6
      have hsz:=hS.2.1
      clear hb
      refine ⟨?_⟩
      simp only [pfs] at hK⊢
      (try simp only [e9,q6] at hK)
      go_simp
      refine hK.out _ _ ⟨⟨hS.1.alloc (by have:=hS.2.1;omega) _,Nat.le_trans hS.2.1 (Ext.alloc _ _).size,(Ext.alloc _ _).blk hS.2.2.1,hS.2.2.2.1.imp Lst.fwd (fun h=>h.keep fun b hb=>(Ext.alloc _ _).at_ b (by have:=hb.2;have:=hS.2.1;omega)),hS.2.2.2.2.1.imp Lst.fwd id,zH (fun b hb=>((Ext.alloc _ _).at_ b (by simp only [Low] at hb;have:=hS.2.1;omega)).trans (hS.2.2.2.2.2.1.out b hb)),by simpa using hS.2.2.2.2.2.2⟩,h0.k,h1.k,h2.k,⟨fun hl=>(h3.out hl.b).ext (Ext.alloc _ _)⟩,h4.k,h5.k,h6.m,⟨fun _=>⟨L3.fwd,W.heap.size,rfl,by omega,by show _=some (Obj.cells #[f 35,_] _ _);rw [e9];exact heapAt _ _ _ rfl⟩⟩,⟨fun hl=>⟨(h8.out hl.b).1.fwd,let ⟨A6,c6,a,b⟩:=(h8.out hl.b).2;⟨A6,c6,a,(b.keep fun b hb=>(Ext.alloc _ _).at_ b hb.2).mono fun b hb=>⟨hb.1,Nat.lt_of_lt_of_le hb.2 (Ext.alloc _ _).size⟩⟩⟩⟩,⟨fun hl=>absurd (h9.out hl.b).2.2.1 hn⟩⟩
     refine StepsL.c 9 [0,7,3] (fun l f W hR hn hb K Q2 hK=>?_) ?_
     ·obtain ⟨hS,h0,h1,h2,h3,h4,h5,h6,h7,h8,h9⟩:=hR
      have q0:=h0.out (hb 0 (by simp))
      have q3:=h3.out (hb 3 (by simp))
      have q7:=h7.out (hb 7 (by simp))
      have hb0:=hb 0 (by simp)
      have L0:=hb0
      have hO:=hS.2.2.2.1.resolve_left hn
      obtain ⟨L9,gr,egr,grl,hgr⟩:=q7
      have q9b:=q3
      obtain ⟨A7,c7,e9,o9,r9⟩:=q9b
      rw [e9] at o9 r9 hgr
      obtain ⟨ess,G,e1,e2,e3,e4,e5,e6⟩:=hO
      rw [len_take (Nat.le_of_lt hlt)] at e1 e2
      have e2:ownsZ W 113 2 (.slice A i n) i ess.flatten:=e2
      have hsz:=hS.2.1
      have hrow:∀b,rowZ (.slice A i n)=some b→NN≤b∧b < wr.heap.size:=fun b hb=>e3 b hb
      have hgrl:=(blk hgr).2.2
      clear hb
      refine ⟨?_⟩
      simp only [pfs] at hK⊢
      (try simp only [q0,egr] at hK)
      simp only [q0,egr]
      refine wp_appZ (.tmp 32) (.tmp 39) _ rfl tyRing (.slice A i n) i ess.flatten (by rfl) e2 (some ⟨gr,0,none⟩) 1 1 [.slice A7 vs.length c7,.int .i64 lost] (by rfl) (Src.of_new hgr rfl) (by intro u hu;simp at hu;rcases hu with rfl|rfl<;>rfl) (by unfold maxLen;omega) (by omega) (fun A6 c6 w6 own3 gr3 at3=>?_)
      simp only [Act.put,List.setIfInBounds_toArray,List.set_cons_zero,List.set_cons_succ]
      refine hK.out _ _ ⟨⟨hS.1.grown gr3 (by have:=hS.2.1;omega) (fun k hk=>by have:=hrow k hk;omega),Nat.le_trans hS.2.1 gr3.size,(gr3.block _ (by omega) (fun e=>by have:=hrow _ e.symm;omega)).trans hS.2.2.1,.inl (Lst.self (by rw [hS.2.2.2.2.2.2];omega)),hS.2.2.2.2.1.imp Lst.fwd id,zH (fun b hb=>(gr3.block b (by simp only [Low] at hb;omega) (fun e=>by have:=hrow _ e.symm;simp only [Low] at hb;omega)).trans (hS.2.2.2.2.2.1.out b hb)),by simpa using hS.2.2.2.2.2.2⟩,h0.k,h1.k,h2.k,⟨fun hl=>(h3.out hl.b).keep (fun b hb=>gr3.block b ((h3.out hl.b).lt b hb) (fun e=>by have:=hrow b e.symm;have:=(h3.out hl.b).lo b hb;omega)) gr3.size⟩,h4.k,h5.k,h6.m,⟨fun hl=>⟨(h7.out hl.b).1.fwd,gr,egr,grl,(gr3.block gr hgrl (fun e=>by have:=hrow gr e.symm;omega)).trans (by show _=some (Obj.cells #[f 35,_] _ _);rw [e9];exact hgr)⟩⟩,⟨fun _=>⟨L0.fwd,A6,c6,rfl,by rw [take_snoc hlt];exact ozl_step (F:=Rng NN wr.heap.size) (Fx:=Rng wr.heap.size W.heap.size) (w0:=W) (es:=[.slice A7 vs.length c7,.int .i64 lost]) (by rw [len_take (Nat.le_of_lt hlt)];exact e1) e4 e5 e6 e3 gr3 at3 (by rw [len_take (Nat.le_of_lt hlt)];exact own3) (by rw [← hx.out];exact ⟨_,rfl,ozl_flat.2 ⟨o9,fun b hb=>(by have:=r9 b hb;simp only [Rng];omega)⟩⟩) (KeepI.refl _ _) (fun b h1 h2=>by simp only [Rng] at h1 h2;omega) (fun b h=>by simp only [Rng] at h;omega) (fun b h=>by simp only [Rng] at h⊢;have:=gr3.size;omega) (fun b h1 h2=>by simp only [Rng];omega) (KeepI.refl _ _)⟩⟩,⟨fun hl=>absurd (h9.out hl.b).2.2.2.1 hn⟩⟩
     refine StepsL.c 10 [8,8,0,1,2,3,4,5,6,7,8] (fun l f W hR hn hb K Q2 hK=>?_) ?_
     ·obtain ⟨hS,h0,h1,h2,h3,h4,h5,h6,h7,h8,h9⟩:=hR
      have q0:=h0.out (hb 0 (by simp))
      have q1:=h1.out (hb 1 (by simp))
      have q2:=h2.out (hb 2 (by simp))
      have q3:=h3.out (hb 3 (by simp))
      have q4:=h4.out (hb 4 (by simp))
      have q5:=h5.out (hb 5 (by simp))
      have q6:=h6.out (hb 6 (by simp))
      have q7:=h7.out (hb 7 (by simp))
      have q8:=h8.out (hb 8 (by simp))
      have hb0:=hb 0 (by simp)
      have hb3:=hb 3 (by simp)
      have hb7:=hb 7 (by simp)
      have hb8:=hb 8 (by simp)
      have L0:=hb0
      have L3:=hb3
      have L7:=hb7
      have L8:=hb8
      obtain ⟨_,A6,c6,e18,_⟩:=q8
      replace q6:=zH q6
      clear hb
      refine ⟨?_⟩
      simp only [pfs] at hK⊢
      (try simp only [q0,q1,q2,q4,q5,e18] at hK)
      go_simp
      refine hK.out _ _ ⟨⟨hS.1,hS.2.1,hS.2.2.1,hS.2.2.2.1.imp Lst.fwd id,.inl (Lst.self (by rw [hS.2.2.2.2.2.2];omega)),hS.2.2.2.2.2.1,by simpa using hS.2.2.2.2.2.2⟩,h0.k,h1.k,h2.k,h3.k,h4.k,h5.k,h6.m,h7.m,h8.m,⟨fun _=>⟨L0.fwd,L3.fwd,L7.fwd,L8.fwd,by simp [upd,e18]⟩⟩⟩
     exact StepsL.nil
    ·intro l f W hR hall
     obtain ⟨hS,h0,h1,h2,h3,h4,h5,h6,h7,h8,h9⟩:=hR
     have q0:=h0.out (hall 0 (by decide))
     have q1:=h1.out (hall 1 (by decide))
     have q2:=h2.out (hall 2 (by decide))
     have q3:=h3.out (hall 3 (by decide))
     have q4:=h4.out (hall 4 (by decide))
     have q5:=h5.out (hall 5 (by decide))
     have q6:=h6.out (hall 6 (by decide))
     have q7:=h7.out (hall 7 (by decide))
     have q8:=h8.out (hall 8 (by decide))
     have q9:=h9.out (hall 9 (by decide))
     clear h0 h1 h2 h3 h4 h5 h6 h7 h8 h9
     simp only [pfs]
     obtain ⟨hB1,hB2,_,_,_,hB6,_⟩:=hS
     obtain ⟨_,A6,c6,e18,hO6⟩:=q8
     have q9:=q9.2.2.2.2
     rw [e18] at q9
     simp only [q9,e18]
     clear q0 q1 q2 q3 q4 q5 q6 q7 q9 e18
     go_wp2_with fail
     go_roundw
     case rel=>exact ⟨i+1,A6,c6,by omega,by go_num,rfl,hO6,zH (fun b hb=>(hB6.out b (by simp only [Low] at hb⊢;omega)).trans (hk.out b hb)),by omega,hB1⟩
     case measure=>simp [intOf];omega
   ·obtain rfl:i=d.ins.length:=by omega
    rw [List.take_length] at hO
    obtain ⟨W2,rfl⟩:∃x:World,x=wr:=⟨_,rfl⟩
    obtain ⟨A2,rfl⟩:∃x,x=A:=⟨_,rfl⟩
    obtain ⟨c2,rfl⟩:∃x,x=n:=⟨_,rfl⟩
    obtain ⟨N1,rfl⟩:∃x,x=NN:=⟨_,rfl⟩
    have hN1:=hNN
    have hO2:=zH hO
    have hk2:=hk
    have hbox2:=(hk.out w.heap.size (by simp only [Low];omega)).trans hbox
    have hres2:=(hk.out (w.heap.size+1) (by simp only [Low];omega)).trans hres
    have hsw2:=hsw
    have hgW0:=zH hbox
    have hBW:=hbr
    clear hbr hO hk hsw hres hNN hbox
    obtain ⟨NN,hNN⟩:∃n,n=W2.heap.size:=⟨_,rfl⟩
    replace hNN:=zH hNN
    have hN2:w.heap.size+2≤NN:=by rw [hNN.out];omega
    obtain ⟨cb,fb,zb⟩:=blk hbox2
    go_wp2_with fail
    clear cb fb
    go_loopw [6,45] (fun ov iv wr=>∃(i:Nat) (A:Option Addr) (n:Nat),i≤d.outs.length∧iv= .int .i64 i∧ov= .slice A i n∧OZl oInts 23 (Rng NN wr.heap.size) wr (.slice A i n) (d.outs.take i)∧Hid (KeepI (Low NN) W2 wr)∧NN≤wr.heap.size∧Below w.heap.size w wr) (fun _ iv _=>d.outs.length - (intOf iv).toNat)
    case atStart=>exact ⟨0,none,0,Nat.zero_le _,rfl,rfl,OZl.nil _ _ _ _,zH (KeepI.refl _ _),by rw [hNN.out];exact Nat.le_refl _,hBW⟩
    case round=>
     obtain ⟨i,A,n,hi,rfl,rfl,hO,hk,hsw,hbr⟩:=hrel
     by_cases hlt:i < d.outs.length
     ·have hi0:(0:Int)≤i:=by omega
      have hi1:(i:Int) < d.outs.length:=by omega
      obtain ⟨b,o,A9,c9,rfl,hI,hc0,hv9⟩:=(hd4.next hB hbr).at_slice hlt
      have hI:=Nat.lt_of_lt_of_le hI hB
      have hvb:=hbd.out.out i hlt
      have hib:=hbd.out.outs
      obtain ⟨vs,hx⟩:∃v,v=nth d.outs i:=⟨_,rfl⟩
      rw [← hx] at hc0 hv9 hvb
      replace hx:=zH hx
      have hbl:b < wr.heap.size:=by omega
      have hv9:Sl cInt (Low B) wr A9 c9 vs:=hv9
      go_wp2_with fail
      go_at_call 101
      refine (cloneInt vs A9 c9 B wr (by omega) hv9 (by omega)).mono ?_
      rintro e w1 ⟨A7,c7,rfl,own7,hb1⟩
      have hs1:=hb1.size
      obtain ⟨ess,G,e1,e2,e3,e4,e5,e6⟩:=hO.keep (w':=w1) (fun b hb=>hb1.block b hb.2)
      rw [len_take (Nat.le_of_lt hlt)] at e1 e2
      have e2:ownsZ w1 23 1 (.slice A i n) i ess.flatten:=e2
      have e1:=zH e1
      go_wp2_with (at_builtin;refine wpList_appZ rfl (.tmp 49) (.tmp 52) _ rfl tyInts (.slice A i n) i ess.flatten (by rfl) (ownZ_keep e2 (fun b hb=>heap_alloc_old _ _ (ownZ_lt e2 b hb))) (some ⟨w1.heap.size,0,none⟩) 1 1 [.slice A7 vs.length c7] (by rfl) byR (one_one rfl) (by unfold maxLen;omega) (by omega) (fun A6 c6 w6 own3 gr3 at3=>?_))
      have z6:=gr3.size
      simp at z6
      go_roundw
      case rel=>
       refine ⟨i+1,A6,c6,by omega,by go_num,rfl,?_,zH (fun b hb=>?_),by omega,?_⟩
       ·rw [take_snoc hlt,← hx.out]
        exact ozl_step (F:=Rng NN wr.heap.size) (Fx:=Rng wr.heap.size w1.heap.size) (w0:=w1) (es:=[.slice A7 vs.length c7]) (by rw [len_take (Nat.le_of_lt hlt)];exact e1.out) e4 e5 e6 e3 gr3 at3 (by rw [len_take (Nat.le_of_lt hlt)];exact own3) ⟨_,rfl,ozl_flat.2 ⟨ownZ_keep (.of own7) (fun b hb=>heap_alloc_old _ _ (ownZ_lt (.of own7) b hb)),fun b hb=>own_lt own7 b (rowZ_own hb)⟩⟩ (fun b hb=>heap_alloc_old _ _ (by have:=hb.2;omega)) (fun b h1 h2=>by simp only [Rng] at h1 h2;omega) (fun b h=>by simp only [Rng] at h;simp;omega) (fun b h=>by simp only [Rng] at h⊢;omega) (fun b h1 h2=>by simp only [Rng];simp at h1;omega) (KeepI.refl _ _)
       ·simp only [Low] at hb
        exact (gr3.block b (by simp;omega) (fun e=>by have:=(e3 b e.symm).1;omega)).trans ((heap_alloc_old _ _ (by omega)).trans ((hb1.block b (by omega)).trans (hk.out b hb)))
       ·exact Below.grown (w:=_) (by exact byB) gr3 (by simp;omega) (fun k hk=>by have:=(e3 k hk).1;omega)
      case measure=>simp [intOf];omega
     ·obtain rfl:i=d.outs.length:=by omega
      rw [List.take_length] at hO
      have hbox3:=(hk.out w.heap.size (by simp only [Low];omega)).trans hbox2
      have hres3:=(hk.out (w.heap.size+1) (by simp only [Low];omega)).trans hres2
      have hres4:((wr.setCell ⟨w.heap.size,3,none⟩ (.slice A2 d.ins.length c2)).setCell ⟨w.heap.size,5,none⟩ (.slice A d.outs.length n)).heap[w.heap.size+1]?=some (.cells #[.slice none 0 0,.slice none 0 0,.int .i64 0,.slice none 0 0,.slice none 0 0,.slice none 0 0,.slice none 0 0] 45):=(Below.heap_setCell _ _ _ _ (show w.heap.size+1≠w.heap.size by omega)).trans ((Below.heap_setCell _ _ _ _ (show w.heap.size+1≠w.heap.size by omega)).trans hres3)
      obtain ⟨crr,frr,zrr⟩:=blk hres3
      obtain ⟨cb,fb,zb⟩:=blk hbox3
      go_wp2_with fail
      refine bodyPost_ret (v:= .agg #[.slice A0 d.jobs.length c0,.slice A1 d.released.length c1,.int .i64 d.next,.slice A2 d.ins.length c2,.slice A3 d.taken.length c3,.slice A d.outs.length n,.slice A5 d.events.length c5]) (by simp [results,Try.results54,go_sem,dom_cells hres4]) rfl ?_
      rw [hNN.out] at hO hk hsw
      rw [hN1.out] at hO2 hk2 hsw2
      exact copy_end hgW0.out o5.out r5.out o9.out r9.out o13.out r13.out o17.out r17.out hne13.out (fun b hb=>hk2.out b hb.2) hsw2 hO2.out (fun b hb=>hk.out b hb.2) hsw hO (fun b hb=>(dom_far (by omega)).trans ((Below.heap_setCell _ _ _ _ (show b≠w.heap.size by omega)).trans (Below.heap_setCell _ _ _ _ (show b≠w.heap.size by omega)))) (by simp) (by rw [← hN1.out];omega) (dom_below ((hbr.setCell (by simp) _).setCell (by simp) _) (by omega))
end Go.Proofs.Ytinlmkhlgclbfab
