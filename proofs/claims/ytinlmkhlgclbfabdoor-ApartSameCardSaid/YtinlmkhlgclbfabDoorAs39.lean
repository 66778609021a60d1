/- MachD -/
import Derived.Test.YtinlmkhlgclbfabDoorAs38
namespace Go.Proofs.YtinlmkhlgclbfabDoor
open Go.RowKit
set_option maxRecDepth 100000
set_option maxHeartbeats 8000000
structure NewM (s0:Nat) (W:World) (D:Nat) (K:List (List TWay)) (fl fk:Value) (g:Nat) (cs:Value→Value→Array Value):Prop where
 out:∃b A n s e,fl= .slice (some ⟨b,0,none⟩) D D∧fk= .agg #[.slice A K.length n]∧W.heap[g]?=some (.cells (cs fl (.slice A K.length n)) 68)∧W.heap[b]?=some (.cells (madeCells #[.int .i64 0] D) 3)∧OCache (Rng s e) W (.slice A K.length n) K∧s0≤b∧s0≤s∧b < g∧e≤g∧g < W.heap.size∧(b < s∨e≤b)
def NewK (s0:Nat) (W:World) (D:Nat) (K:List (List TWay)) (l:Array Bool) (fl fk:Value):Prop:=∃A n s e,fk= .agg #[.slice A K.length n]∧OCache (Rng s e) W (.slice A K.length n) K∧s0≤s∧e≤W.heap.size∧(Lst l 4→∀b,fl= .slice (some ⟨b,0,none⟩) D D→b < s∨e≤b)
theorem newM_start {c:TCfg}{S:TCfgS}{sc:TScr}{Z:TScrS}{W:World}{B s0 D gm:Nat}{K:List (List TWay)}{fl fk:Value}(h:NewM s0 W D K fl fk gm (fun x y=>#[.int .i64 c.sets,.int .i64 c.ways,.int .i64 c.doms,.int .i64 c.pad,.int .i64 c.quantum,.slice S.a0 c.slots.length S.n0,.slice S.a1 c.owners.length S.n1,.slice S.a2 c.chans.length S.n2,.slice S.a3 c.tasks.length S.n3,.slice Z.a0 sc.actions.length Z.n0,.slice Z.a1 sc.arrivals.length Z.n1,.int .i64 sc.rounds,.slice none 0 0,x,y]))(hs:TCfg.At (Low B) W c S)(hz:TScr.At (Low B) W sc Z)(hB:B≤s0)(hD:D≤1000):
  ∃(b:Nat) (A:Option Addr) (n s e:Nat),MachW B c S sc Z gm [] (List.replicate D 0) K (fun _=>False) (fun x=>x=b) (Rng s e) none 0 (some ⟨b,0,none⟩) D A n W∧s0≤gm∧∀x,(x=b∨Rng s e x)→s0≤x:=by
 obtain ⟨b,A,n,s,e,h1,h2,h3,h4,h5,h6,h7,h8,h9,h10,h11⟩:=h.out
 rw [h1] at h3
 have ob:ownsZ W 3 1 (.slice (some ⟨b,0,none⟩) D D) D (List.replicate D [.int .i64 0]).flatten:=by have:=own_block (n:=D) (size:=1) h4 (by simp [madeCells]) (by unfold maxLen;omega);rwa [made_flat1] at this
 have r:=ozl_made (e:=oInt) (x:=(0:Int)) ob rfl
 have hb:∀x,rowZ (.slice (some ⟨b,0,none⟩) D D)=some x→x=b:=fun x hx=>by have:=rowZ_own hx;simpa [Value.ownBlock] using this.symm
 refine ⟨b,A,n,s,e,⟨by simpa using h3,hs,hz,OZl.nil _ _ _ _,by rw [List.length_replicate];exact r.mono hb,h5,by omega,fun x hx=>?_,fun x=>⟨fun h=>h.elim,fun hx hk=>?_⟩⟩,by omega,fun x hx=>?_⟩
 ·rcases hx with hx|hx|hx
  ·exact hx.elim
  ·subst hx;exact ⟨by omega,(blk h4).2.2,by omega⟩
  ·have h0:=hx.1;have h00:=hx.2;exact ⟨by omega,by omega,by omega⟩
 ·subst hx;have h0:=hk.1;have h00:=hk.2;omega
 ·rcases hx with hx|hx
  ·omega
  ·have:=hx.1;omega
theorem execNew (c:TCfg)(S:TCfgS)(sc:TScr)(Z:TScrS)(ok:CfgOk c)(B:Nat)(w:World)(hB:B≤w.heap.size)(hs:TCfg.At (Low B) w c S)(hz:TScr.At (Low B) w sc Z):
  Calls Tryd.prog 17 #[.agg #[.int .i64 c.sets,.int .i64 c.ways,.int .i64 c.doms,.int .i64 c.pad,.int .i64 c.quantum,.slice S.a0 c.slots.length S.n0,.slice S.a1 c.owners.length S.n1,.slice S.a2 c.chans.length S.n2,.slice S.a3 c.tasks.length S.n3],.agg #[.slice Z.a0 sc.actions.length Z.n0,.slice Z.a1 sc.arrivals.length Z.n1,.int .i64 sc.rounds]] w (RetMach B c S sc Z (List.replicate c.doms.toNat (freshOf c)) (List.replicate c.doms.toNat 0) (cache0 c) w):=by
 obtain ⟨D,hD⟩:=Int.eq_ofNat_of_zero_le (show 0≤c.doms by have:=ok.doms;omega)
 obtain ⟨D1,hD1⟩:=Int.eq_ofNat_of_zero_le (show 0≤c.sets by have:=ok.sets;omega)
 obtain ⟨D2,hD2⟩:=Int.eq_ofNat_of_zero_le (show 0≤c.ways by have:=ok.ways;omega)
 have kd:=ok.doms
 have ks:=ok.sets
 have kw:=ok.ways
 have hm0:=make_run tyInt D (by omega) (by omega)
 have hK:emptyCache D1 D2=cache0 c:=by unfold cache0;rw [hD1,hD2];rfl
 have hCE:=zH (fun W=>cacheEmpty D1 D2 W (by omega) (by omega))
 rw [hK] at hCE
 clear hK
 replace hD:=zH hD
 replace hD1:=zH hD1
 replace hD2:=zH hD2
 go_enter Tryd.func17,Tryd.ntmps17
 go_wp2_with fail
 have hz1:w.heap.size+2≤((w.alloc (.cells #[.int .i64 c.sets,.int .i64 c.ways,.int .i64 c.doms,.int .i64 c.pad,.int .i64 c.quantum,.slice S.a0 c.slots.length S.n0,.slice S.a1 c.owners.length S.n1,.slice S.a2 c.chans.length S.n2,.slice S.a3 c.tasks.length S.n3] 27)).alloc (.cells #[.slice Z.a0 sc.actions.length Z.n0,.slice Z.a1 sc.arrivals.length Z.n1,.int .i64 sc.rounds] 31)).heap.size:=by simp
 generalize hw1:(w.alloc (.cells #[.int .i64 c.sets,.int .i64 c.ways,.int .i64 c.doms,.int .i64 c.pad,.int .i64 c.quantum,.slice S.a0 c.slots.length S.n0,.slice S.a1 c.owners.length S.n1,.slice S.a2 c.chans.length S.n2,.slice S.a3 c.tasks.length S.n3] 27)).alloc (.cells #[.slice Z.a0 sc.actions.length Z.n0,.slice Z.a1 sc.arrivals.length Z.n1,.int .i64 sc.rounds] 31)=w1 at hz1⊢
 refine wp_region_inv [6,7,8,9,10,11,12,13,14,15,16,17,5] (fun l f W=>(Below (w.heap.size+2) w1 W∧W.heap[w.heap.size]?=some (.cells #[.int .i64 c.sets,.int .i64 c.ways,.int .i64 c.doms,.int .i64 c.pad,.int .i64 c.quantum,.slice S.a0 c.slots.length S.n0,.slice S.a1 c.owners.length S.n1,.slice S.a2 c.chans.length S.n2,.slice S.a3 c.tasks.length S.n3] 27)∧W.heap[w.heap.size+1]?=some (.cells #[.slice Z.a0 sc.actions.length Z.n0,.slice Z.a1 sc.arrivals.length Z.n1,.int .i64 sc.rounds] 31)∧l.size=13)∧Fa l 0 (f 6= .agg #[.int .i64 c.sets,.int .i64 c.ways,.int .i64 c.doms,.int .i64 c.pad,.int .i64 c.quantum,.slice S.a0 c.slots.length S.n0,.slice S.a1 c.owners.length S.n1,.slice S.a2 c.chans.length S.n2,.slice S.a3 c.tasks.length S.n3])∧Fa l 1 (f 7= .agg #[.slice Z.a0 sc.actions.length Z.n0,.slice Z.a1 sc.arrivals.length Z.n1,.int .i64 sc.rounds])∧Fa l 2 (f 8= .pointer (some ⟨w.heap.size,2,none⟩))∧Fa l 3 (f 9= .int .i64 ((D:Nat):Int))∧Fa l 4 (NewRow (w.heap.size+2) W (f 10) D 3 (madeCells #[.int .i64 0] D))∧Fa l 5 (f 11= .pointer (some ⟨w.heap.size,0,none⟩))∧Fa l 6 (f 12= .int .i64 ((D1:Nat):Int))∧Fa l 7 (f 13= .pointer (some ⟨w.heap.size,1,none⟩))∧Fa l 8 (f 14= .int .i64 ((D2:Nat):Int))∧Fa l 9 (NewK (w.heap.size+2) W D (cache0 c) l (f 10) (f 15))∧Fa l 10 ((Lst l 4∧Lst l 9)∧∃b A n,f 10= .slice (some ⟨b,0,none⟩) D D∧f 15= .agg #[.slice A (cache0 c).length n]∧f 16= .agg #[.int .i64 c.sets,.int .i64 c.ways,.int .i64 c.doms,.int .i64 c.pad,.int .i64 c.quantum,.slice S.a0 c.slots.length S.n0,.slice S.a1 c.owners.length S.n1,.slice S.a2 c.chans.length S.n2,.slice S.a3 c.tasks.length S.n3,.slice Z.a0 sc.actions.length Z.n0,.slice Z.a1 sc.arrivals.length Z.n1,.int .i64 sc.rounds,.slice none 0 0,.slice (some ⟨b,0,none⟩) D D,.slice A (cache0 c).length n])∧Fa l 11 ((Lst l 4∧Lst l 9∧Lst l 10)∧∃g,f 17= .pointer (some ⟨g,0,none⟩)∧NewM (w.heap.size+2) W D (cache0 c) (f 10) (f 15) g (fun x y=>#[.int .i64 c.sets,.int .i64 c.ways,.int .i64 c.doms,.int .i64 c.pad,.int .i64 c.quantum,.slice S.a0 c.slots.length S.n0,.slice S.a1 c.owners.length S.n1,.slice S.a2 c.chans.length S.n2,.slice S.a3 c.tasks.length S.n3,.slice Z.a0 sc.actions.length Z.n0,.slice Z.a1 sc.arrivals.length Z.n1,.int .i64 sc.rounds,.slice none 0 0,x,y]))∧Fa l 12 (Lst l 11∧f 5=f 17)) (by kernel_rfl) (by decide) (by kernel_rfl) (by intro s hs;simp at hs⊢;omega) ?_ ?_ ?_
 ·intro l hz hl
  exact ⟨⟨(Below.refl _ _).drew,by rw [← hw1];exact byH,by rw [← hw1];exact byH,hz⟩,.no (hl 0),.no (hl 1),.no (hl 2),.no (hl 3),.no (hl 4),.no (hl 5),.no (hl 6),.no (hl 7),.no (hl 8),.no (hl 9),.no (hl 10),.no (hl 11),.no (hl 12)⟩
 ·refine StepsL.c 1 [] (fun l f W hR hn hb K Q2 hK=>?_) ?_
  ·obtain ⟨hS,h0,h1,h2,h3,h4,h5,h6,h7,h8,h9,h10,h11,h12⟩:=hR
   clear hb
   refine ⟨?_⟩
   simp only [pfs] at hK⊢
   obtain ⟨cS,fS,zS⟩:=blk hS.2.1
   go_simp
   refine hK.out _ _ ⟨⟨hS.1,hS.2.1,hS.2.2.1,by simpa using hS.2.2.2⟩,⟨fun _=>rfl⟩,h1.k,h2.k,h3.k,h4.k,h5.k,h6.k,h7.k,h8.k,⟨fun hl=>(let ⟨A,n,s,e,h1,h2,h3,h4,h5⟩:=(h9.out hl.b);⟨A,n,s,e,h1,h2,h3,h4,fun hl=>h5 hl.b⟩)⟩,h10.m,h11.m,h12.m⟩
  refine StepsL.c 2 [] (fun l f W hR hn hb K Q2 hK=>?_) ?_
  ·obtain ⟨hS,h0,h1,h2,h3,h4,h5,h6,h7,h8,h9,h10,h11,h12⟩:=hR
   clear hb
   refine ⟨?_⟩
   simp only [pfs] at hK⊢
   obtain ⟨cS,fS,zS⟩:=blk hS.2.2.1
   go_simp
   refine hK.out _ _ ⟨⟨hS.1,hS.2.1,hS.2.2.1,by simpa using hS.2.2.2⟩,h0.k,⟨fun _=>rfl⟩,h2.k,h3.k,h4.k,h5.k,h6.k,h7.k,h8.k,⟨fun hl=>(let ⟨A,n,s,e,h1,h2,h3,h4,h5⟩:=(h9.out hl.b);⟨A,n,s,e,h1,h2,h3,h4,fun hl=>h5 hl.b⟩)⟩,h10.m,h11.m,h12.m⟩
  refine StepsL.c 3 [] (fun l f W hR hn hb K Q2 hK=>?_) ?_
  ·obtain ⟨hS,h0,h1,h2,h3,h4,h5,h6,h7,h8,h9,h10,h11,h12⟩:=hR
   clear hb
   refine ⟨?_⟩
   simp only [pfs] at hK⊢
   go_simp
   refine hK.out _ _ ⟨⟨hS.1,hS.2.1,hS.2.2.1,by simpa using hS.2.2.2⟩,h0.k,h1.k,⟨fun _=>rfl⟩,h3.k,h4.k,h5.k,h6.k,h7.k,h8.k,⟨fun hl=>(let ⟨A,n,s,e,h1,h2,h3,h4,h5⟩:=(h9.out hl.b);⟨A,n,s,e,h1,h2,h3,h4,fun hl=>h5 hl.b⟩)⟩,h10.m,h11.m,h12.m⟩
  refine StepsL.c 4 [2] (fun l f W hR hn hb K Q2 hK=>?_) ?_
  ·obtain ⟨hS,h0,h1,h2,h3,h4,h5,h6,h7,h8,h9,h10,h11,h12⟩:=hR
   have q2:=h2.out (hb 2 (by simp))
   clear hb
   refine ⟨?_⟩
   simp only [pfs] at hK⊢
   (try simp only [q2] at hK)
   have hx:=hS.2.1
   rw [hD.out] at hx
   obtain ⟨cS,fS,zS⟩:=blk hx
   go_simp
   refine hK.out _ _ ⟨⟨hS.1,hS.2.1,hS.2.2.1,by simpa using hS.2.2.2⟩,h0.k,h1.k,h2.k,⟨fun _=>rfl⟩,h4.k,h5.k,h6.k,h7.k,h8.k,⟨fun hl=>(let ⟨A,n,s,e,h1,h2,h3,h4,h5⟩:=(h9.out hl.b);⟨A,n,s,e,h1,h2,h3,h4,fun hl=>h5 hl.b⟩)⟩,h10.m,h11.m,h12.m⟩
  refine StepsL.c 5 [3,3] (fun l f W hR hn hb K Q2 hK=>?_) ?_
  ·obtain ⟨hS,h0,h1,h2,h3,h4,h5,h6,h7,h8,h9,h10,h11,h12⟩:=hR
   have q3:=h3.out (hb 3 (by simp))
   clear hb
   refine ⟨?_⟩
   simp only [pfs] at hK⊢
   (try simp only [q3] at hK)
   have hmk:=hm0
   have hsz:=Nat.le_trans hz1 hS.1.size
   go_simp
   refine hK.out _ _ ⟨⟨hS.1.alloc (by have:=hS.1.size;omega) _,(heap_alloc_old _ _ (blk hS.2.1).2.2).trans hS.2.1,(heap_alloc_old _ _ (blk hS.2.2.1).2.2).trans hS.2.2.1,by simpa using hS.2.2.2⟩,h0.k,h1.k,h2.k,h3.k,⟨fun _=>⟨W.heap.size,rfl,hsz,heapAt _ _ _ rfl⟩⟩,h5.k,h6.k,h7.k,h8.k,⟨fun hl=>(let ⟨A,n,s,e,h1,h2,h3,h4,h5⟩:=(h9.out hl.b);⟨A,n,s,e,h1,OSl.keep h2 fun x hx=>heap_alloc_old _ _ (by have:=hx.2;omega),h3,by simp;omega,fun _ b hb=>by injection hb with hb;injection hb with hb;injection hb with hb;subst hb;exact .inr h4⟩)⟩,⟨fun hl=>absurd (h10.out hl.b).1.1 hn⟩,⟨fun hl=>absurd (h11.out hl.b).1.1 hn⟩,h12.m⟩
  refine StepsL.c 6 [] (fun l f W hR hn hb K Q2 hK=>?_) ?_
  ·obtain ⟨hS,h0,h1,h2,h3,h4,h5,h6,h7,h8,h9,h10,h11,h12⟩:=hR
   clear hb
   refine ⟨?_⟩
   simp only [pfs] at hK⊢
   go_simp
   refine hK.out _ _ ⟨⟨hS.1,hS.2.1,hS.2.2.1,by simpa using hS.2.2.2⟩,h0.k,h1.k,h2.k,h3.k,h4.k,⟨fun _=>rfl⟩,h6.k,h7.k,h8.k,⟨fun hl=>(let ⟨A,n,s,e,h1,h2,h3,h4,h5⟩:=(h9.out hl.b);⟨A,n,s,e,h1,h2,h3,h4,fun hl=>h5 hl.b⟩)⟩,h10.m,h11.m,h12.m⟩
  refine StepsL.c 7 [5] (fun l f W hR hn hb K Q2 hK=>?_) ?_
  ·obtain ⟨hS,h0,h1,h2,h3,h4,h5,h6,h7,h8,h9,h10,h11,h12⟩:=hR
   have q5:=h5.out (hb 5 (by simp))
   clear hb
   refine ⟨?_⟩
   simp only [pfs] at hK⊢
   (try simp only [q5] at hK)
   have hx:=hS.2.1
   rw [hD1.out] at hx
   obtain ⟨cS,fS,zS⟩:=blk hx
   go_simp
   refine hK.out _ _ ⟨⟨hS.1,hS.2.1,hS.2.2.1,by simpa using hS.2.2.2⟩,h0.k,h1.k,h2.k,h3.k,h4.k,h5.k,⟨fun _=>rfl⟩,h7.k,h8.k,⟨fun hl=>(let ⟨A,n,s,e,h1,h2,h3,h4,h5⟩:=(h9.out hl.b);⟨A,n,s,e,h1,h2,h3,h4,fun hl=>h5 hl.b⟩)⟩,h10.m,h11.m,h12.m⟩
  refine StepsL.c 8 [] (fun l f W hR hn hb K Q2 hK=>?_) ?_
  ·obtain ⟨hS,h0,h1,h2,h3,h4,h5,h6,h7,h8,h9,h10,h11,h12⟩:=hR
   clear hb
   refine ⟨?_⟩
   simp only [pfs] at hK⊢
   go_simp
   refine hK.out _ _ ⟨⟨hS.1,hS.2.1,hS.2.2.1,by simpa using hS.2.2.2⟩,h0.k,h1.k,h2.k,h3.k,h4.k,h5.k,h6.k,⟨fun _=>rfl⟩,h8.k,⟨fun hl=>(let ⟨A,n,s,e,h1,h2,h3,h4,h5⟩:=(h9.out hl.b);⟨A,n,s,e,h1,h2,h3,h4,fun hl=>h5 hl.b⟩)⟩,h10.m,h11.m,h12.m⟩
  refine StepsL.c 9 [7] (fun l f W hR hn hb K Q2 hK=>?_) ?_
  ·obtain ⟨hS,h0,h1,h2,h3,h4,h5,h6,h7,h8,h9,h10,h11,h12⟩:=hR
   have q7:=h7.out (hb 7 (by simp))
   clear hb
   refine ⟨?_⟩
   simp only [pfs] at hK⊢
   (try simp only [q7] at hK)
   have hx:=hS.2.1
   rw [hD2.out] at hx
   obtain ⟨cS,fS,zS⟩:=blk hx
   go_simp
   refine hK.out _ _ ⟨⟨hS.1,hS.2.1,hS.2.2.1,by simpa using hS.2.2.2⟩,h0.k,h1.k,h2.k,h3.k,h4.k,h5.k,h6.k,h7.k,⟨fun _=>rfl⟩,⟨fun hl=>(let ⟨A,n,s,e,h1,h2,h3,h4,h5⟩:=(h9.out hl.b);⟨A,n,s,e,h1,h2,h3,h4,fun hl=>h5 hl.b⟩)⟩,h10.m,h11.m,h12.m⟩
  refine StepsL.c 10 [6,8] (fun l f W hR hn hb K Q2 hK=>?_) ?_
  ·obtain ⟨hS,h0,h1,h2,h3,h4,h5,h6,h7,h8,h9,h10,h11,h12⟩:=hR
   have q6:=h6.out (hb 6 (by simp))
   have q8:=h8.out (hb 8 (by simp))
   clear hb
   refine ⟨?_⟩
   simp only [pfs] at hK⊢
   (try simp only [q6,q8] at hK)
   have HC:=hCE.out W
   go_simp
   go_at_call 32
   refine HC.mono ?_
   clear HC
   rintro e w9 ⟨A9,n9,rfl,hO9,hb9⟩
   try dsimp only
   try simp only [Act.put,List.setIfInBounds_toArray,List.set_cons_zero,List.set_cons_succ]
   refine hK.out _ _ ⟨⟨hS.1.trans (hb9.mono (Nat.le_trans hz1 hS.1.size)),(hb9.block _ (blk hS.2.1).2.2).trans hS.2.1,(hb9.block _ (blk hS.2.2.1).2.2).trans hS.2.2.1,by simpa using hS.2.2.2⟩,h0.k,h1.k,h2.k,h3.k,⟨fun hl=>(let ⟨b,e,r,h⟩:=(h4.out hl.b);⟨b,e,r,(hb9.block _ (blk h).2.2).trans h⟩)⟩,h5.k,h6.k,h7.k,h8.k,⟨fun _=>⟨A9,n9,W.heap.size,w9.heap.size,rfl,hO9,Nat.le_trans hz1 hS.1.size,Nat.le_refl _,fun hl b e=>by obtain ⟨b2,e2,_,hl2⟩:=h4.out hl.b;rw [show f 10=_ from e] at e2;injection e2 with e2;injection e2 with e2;injection e2 with e2;subst e2;exact .inl (blk hl2).2.2⟩⟩,⟨fun hl=>absurd (h10.out hl.b).1.2 hn⟩,⟨fun hl=>absurd (h11.out hl.b).1.2.1 hn⟩,h12.m⟩
  refine StepsL.c 11 [0,1,4,9] (fun l f W hR hn hb K Q2 hK=>?_) ?_
  ·obtain ⟨hS,h0,h1,h2,h3,h4,h5,h6,h7,h8,h9,h10,h11,h12⟩:=hR
   have q0:=h0.out (hb 0 (by simp))
   have q1:=h1.out (hb 1 (by simp))
   have q4:=h4.out (hb 4 (by simp))
   have q9:=h9.out (hb 9 (by simp))
   obtain ⟨b4,e4,_⟩:=q4
   obtain ⟨A9,n9,s9,e9,e15,_⟩:=q9
   have L4:=hb 4 (by simp)
   have L9:=hb 9 (by simp)
   clear hb
   refine ⟨?_⟩
   simp only [pfs] at hK⊢
   (try simp only [q0,q1,e4,e15] at hK)
   go_simp
   refine hK.out _ _ ⟨⟨hS.1,hS.2.1,hS.2.2.1,by simpa using hS.2.2.2⟩,h0.k,h1.k,h2.k,h3.k,h4.k,h5.k,h6.k,h7.k,h8.k,⟨fun hl=>(let ⟨A,n,s,e,h1,h2,h3,h4,h5⟩:=(h9.out hl.b);⟨A,n,s,e,h1,h2,h3,h4,fun hl=>h5 hl.b⟩)⟩,⟨fun _=>⟨⟨L4.fwd,L9.fwd⟩,b4,A9,n9,e4,e15,rfl⟩⟩,h11.m,h12.m⟩
  refine StepsL.c 12 [10] (fun l f W hR hn hb K Q2 hK=>?_) ?_
  ·obtain ⟨hS,h0,h1,h2,h3,h4,h5,h6,h7,h8,h9,h10,h11,h12⟩:=hR
   have q10:=h10.out (hb 10 (by simp))
   have L10:=hb 10 (by simp)
   obtain ⟨⟨L4,L9⟩,b,A,n,e4,e15,e16⟩:=q10
   obtain ⟨b2,f4,r4,r4b⟩:=h4.out L4
   obtain ⟨A2,n2,s2,e2,f9,r9,r9a,r9b,r9c⟩:=h9.out L9
   rw [e4] at f4
   injection f4 with f4;injection f4 with f4;injection f4 with f4;subst f4
   rw [e15] at f9
   injection f9 with f9;injection f9 with f9;injection f9 with f9;injection f9 with fa fb fc;subst fa;subst fc
   have r9d:=r9c L4 b e4
   replace e4:=zH e4
   replace e15:=zH e15
   clear hb
   refine ⟨?_⟩
   simp only [pfs] at hK⊢
   (try simp only [e16] at hK)
   go_simp
   refine hK.out _ (W.alloc (.cells #[.int .i64 c.sets,.int .i64 c.ways,.int .i64 c.doms,.int .i64 c.pad,.int .i64 c.quantum,.slice S.a0 c.slots.length S.n0,.slice S.a1 c.owners.length S.n1,.slice S.a2 c.chans.length S.n2,.slice S.a3 c.tasks.length S.n3,.slice Z.a0 sc.actions.length Z.n0,.slice Z.a1 sc.arrivals.length Z.n1,.int .i64 sc.rounds,.slice none 0 0,.slice (some ⟨b,0,none⟩) D D,.slice A (cache0 c).length n] 68)) ⟨⟨hS.1.alloc (by have:=hS.1.size;omega) _,(heap_alloc_old _ _ (blk hS.2.1).2.2).trans hS.2.1,(heap_alloc_old _ _ (blk hS.2.2.1).2.2).trans hS.2.2.1,by simpa using hS.2.2.2⟩,h0.k,h1.k,h2.k,h3.k,⟨fun hl=>(h4.out hl.b).alloc _⟩,h5.k,h6.k,h7.k,h8.k,⟨fun hl=>(let ⟨A,n,s,e,h1,h2,h3,h4,h5⟩:=(h9.out hl.b);⟨A,n,s,e,h1,OSl.keep h2 fun x hx=>heap_alloc_old _ _ (by have:=hx.2;omega),h3,by simp;omega,fun hl=>h5 hl.b⟩)⟩,h10.m,⟨fun _=>⟨⟨L4.fwd,L9.fwd,L10.fwd⟩,W.heap.size,rfl,⟨b,A,n,s2,e2,e4.out,e15.out,by show _=some (Obj.cells (#[.int .i64 c.sets,.int .i64 c.ways,.int .i64 c.doms,.int .i64 c.pad,.int .i64 c.quantum,.slice S.a0 c.slots.length S.n0,.slice S.a1 c.owners.length S.n1,.slice S.a2 c.chans.length S.n2,.slice S.a3 c.tasks.length S.n3,.slice Z.a0 sc.actions.length Z.n0,.slice Z.a1 sc.arrivals.length Z.n1,.int .i64 sc.rounds,.slice none 0 0,f 10,.slice A (cache0 c).length n]:Array Value) _ _);rw [show f 10=_ from e4.out];exact heapAt _ _ _ rfl,(heap_alloc_old _ _ (blk r4b).2.2).trans r4b,OSl.keep r9 fun x hx=>heap_alloc_old _ _ (by have:=hx.2;omega),r4,r9a,(blk r4b).2.2,r9b,by simp,r9d⟩⟩⟩,⟨fun hl=>absurd (h12.out hl.b).1 hn⟩⟩
  refine StepsL.c 13 [11,9,0,1,2,3,4,5,6,7,8,9,10,11] (fun l f W hR hn hb K Q2 hK=>?_) ?_
  ·obtain ⟨hS,h0,h1,h2,h3,h4,h5,h6,h7,h8,h9,h10,h11,h12⟩:=hR
   have q0:=h0.out (hb 0 (by simp))
   have q1:=h1.out (hb 1 (by simp))
   have q2:=h2.out (hb 2 (by simp))
   have q3:=h3.out (hb 3 (by simp))
   have q4:=h4.out (hb 4 (by simp))
   have q5:=h5.out (hb 5 (by simp))
   have q6:=h6.out (hb 6 (by simp))
   have q7:=h7.out (hb 7 (by simp))
   have q8:=h8.out (hb 8 (by simp))
   have q9:=h9.out (hb 9 (by simp))
   have q10:=h10.out (hb 10 (by simp))
   have q11:=h11.out (hb 11 (by simp))
   have L11:=hb 11 (by simp)
   obtain ⟨_,g,e17,_⟩:=q11
   clear hb
   refine ⟨?_⟩
   simp only [pfs] at hK⊢
   (try simp only [q0,q1,q2,q3,q5,q6,q7,q8,e17] at hK)
   go_simp
   refine hK.out _ _ ⟨⟨hS.1,hS.2.1,hS.2.2.1,by simpa using hS.2.2.2⟩,h0.k,h1.k,h2.k,h3.k,h4.k,h5.k,h6.k,h7.k,h8.k,⟨fun hl=>(let ⟨A,n,s,e,h1,h2,h3,h4,h5⟩:=(h9.out hl.b);⟨A,n,s,e,h1,h2,h3,h4,fun hl=>h5 hl.b⟩)⟩,h10.m,h11.m,⟨fun _=>⟨L11.fwd,e17.symm⟩⟩⟩
  exact StepsL.nil
 ·intro l f W hR hall
  obtain ⟨hS,h0,h1,h2,h3,h4,h5,h6,h7,h8,h9,h10,h11,h12⟩:=hR
  have q0:=h0.out (hall 0 (by decide))
  have q1:=h1.out (hall 1 (by decide))
  have q2:=h2.out (hall 2 (by decide))
  have q3:=h3.out (hall 3 (by decide))
  have q4:=h4.out (hall 4 (by decide))
  have q5:=h5.out (hall 5 (by decide))
  have q6:=h6.out (hall 6 (by decide))
  have q7:=h7.out (hall 7 (by decide))
  have q8:=h8.out (hall 8 (by decide))
  have q9:=h9.out (hall 9 (by decide))
  have q10:=h10.out (hall 10 (by decide))
  have q11:=h11.out (hall 11 (by decide))
  have q12:=h12.out (hall 12 (by decide))
  clear h0 h1 h2 h3 h4 h5 h6 h7 h8 h9 h10 h11 h12
  obtain ⟨_,gm,e17,hNM⟩:=q11
  have e5:=q12.2
  rw [e17] at e5
  have hb1:=hS.1
  have hcf:=hS.2.1
  have hbw:Below w.heap.size w W:=(show Below w.heap.size w w1 by rw [← hw1];exact byB).trans (hb1.mono (by omega))
  have hsz:=Nat.le_trans hz1 hb1.size
  obtain ⟨b,A9,n9,s9,e9,hM,g0,g1⟩:=newM_start hNM ((hs.next hB hbw).up hB) ((hz.next hB hbw).mono fun b hb=>Nat.lt_of_lt_of_le hb hB) (show w.heap.size≤w.heap.size+2 by omega) (by have:=hD.out;omega)
  obtain ⟨cc,fc,zc⟩:=blk hcf
  simp only [pfs]
  simp only [e5]
  replace hM:=zH hM
  replace g1:=zH g1
  have hsh:=zH hs
  have hzh:=zH hz
  clear q0 q1 q2 q3 q4 q5 q6 q7 q8 q9 q10 q12 hall hNM hS hb1 e17 e5 hs hz hm0 hCE
  have hD4:D≤4:=by have:=hD.out;omega
  have hDn:Hid (c.doms.toNat=D):=zH (by rw [hD.out];rfl)
  rw [hD.out] at cc
  go_wp2_with fail
  go_loopw [20] (fun iv wr=>∃(i:Nat) (F:Nat→Prop) (A:Option Addr) (n:Nat),i≤D∧iv= .int .i64 i∧MachW w.heap.size c S sc Z gm (List.replicate i (freshOf c)) (List.replicate D 0) (cache0 c) F (fun x=>x=b) (Rng s9 e9) A n (some ⟨b,0,none⟩) D A9 n9 wr∧wr.heap[w.heap.size]?=some (.cells #[.int .i64 c.sets,.int .i64 c.ways,.int .i64 c.doms,.int .i64 c.pad,.int .i64 c.quantum,.slice S.a0 c.slots.length S.n0,.slice S.a1 c.owners.length S.n1,.slice S.a2 c.chans.length S.n2,.slice S.a3 c.tasks.length S.n3] 27)∧Below w.heap.size w wr∧(∀x,F x→w.heap.size+2≤x)) (fun iv _=>D - (intOf iv).toNat)
  case atStart=>exact ⟨0,_,_,_,Nat.zero_le _,rfl,hM.out,hcf,hbw,fun _ h=>h.elim⟩
  case round=>
   obtain ⟨i,F,A,n,hi,rfl,hMi,hci,hbi,hFi⟩:=hrel
   replace hMi:=zH hMi
   replace hci:=zH hci
   replace hFi:=zH hFi
   by_cases hlt:i < D
   ·have b1:decide (i < D)=true:=by simpa using hlt
    have hlt2:=zH hlt
    go_upto_region 4 with (fail)
    refine execNewR4 _ (by kernel_rfl) ok hMi.out hci.out ⟨Nat.le_refl _,by omega,fun x hx=>by rcases hx with hx|hx;have:=hFi.out x hx;omega;have:=g1.out x hx;omega⟩ (by simp;omega) ?_
    intro _ _ _ _ _ _ _ _ _ _ _ A' n' F' W' hM' hb' hc' hF'
    have hM2:=zH hM'
    replace hc':=zH hc'
    replace hF':=zH hF'
    clear hM'
    go_wp2_with fail
    go_roundw
    case rel=>exact ⟨i+1,F',A',n',hlt2.out,by go_num,by rw [List.replicate_succ'];exact hM2.out,hc'.out,hbi.trans hb',fun x hx=>by rcases hF'.out x hx with h|h;exact hFi.out x h;have:=hMi.out.size;have:=hbi.size;omega⟩
    case measure=>have:=hlt2.out;simp [intOf];omega
   ·obtain rfl:i=D:=by omega
    go_wp2_with fail
    go_ret
    rw [hDn.out]
    exact ⟨gm,F,_,_,A,n,_,_,_,_,rfl,hMi.out.low hB (hsh.out.next hB hbi) (hzh.out.next hB hbi),by omega,fun x hx=>by rcases hx with hx|hx;have:=hFi.out x hx;omega;have:=g1.out x hx;omega,hbi⟩
end Go.Proofs.YtinlmkhlgclbfabDoor
