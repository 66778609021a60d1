/- WinG -/
import Derived.Test.YtinlmkhlgclbfabDoorAs20
namespace Go.Proofs.YtinlmkhlgclbfabDoor
open Go.RowKit
set_option maxRecDepth 100000
set_option maxHeartbeats 8000000
def KeepN (w:World) (Gi:Nat→Prop) (W:World):Prop:=(∀b,b < w.heap.size→¬ Gi b→W.heap[b]?=w.heap[b]?)∧w.heap.size≤W.heap.size∧Below 0 w W
section
variable {gr gk : Nat} {G : Nat → Nat → Prop} {F : Nat → Prop} {B : Nat} {w : World} {c : TCfg} {S : TCfgS} {m : Int} {d : TDom} {T : TDomS} {k : List (List TWay)} {Ak : Option Addr} {nk : Nat} {ac : List TAct} {Al : Option Addr} {nl : Nat} {now to_ : Int}
theorem Rn.out (h:Rn gr gk G F B w c S m d T k Ak nk ac Al nl now to_){i:Nat}(hi:i < d.outs.length):
  ∃(g:Nat) (A:Option Addr) (ca:Nat) (Gi:Nat→Prop),T.a4=some ⟨g,0,none⟩∧G 4 g∧g < w.heap.size∧w.cell? ⟨g,i,none⟩=some (.slice A (nth d.outs i).length ca)∧(∀o,w.frozen? ⟨g,o,none⟩=false)∧
   ownsZ w 3 1 (.slice A (nth d.outs i).length ca) (nth d.outs i).length ((nth d.outs i).flatMap fun n=>[Value.int .i64 n])∧(∀b,rowZ (.slice A (nth d.outs i).length ca)=some b→Gi b)∧(∀b,Gi b→G 4 b∧b≠g∧b≠gr∧b≠gk)∧
   ∀(W:World) (A':Option Addr) (c':Nat) (r:List Int),KeepN w Gi W→ownsZ W 3 1 (.slice A' r.length c') r.length (r.flatMap fun n=>[Value.int .i64 n])→
    (∀b,rowZ (.slice A' r.length c')=some b→Gi b∨(w.heap.size≤b∧b < W.heap.size))→
    ∃G',Rn gr gk G' F B (W.setCell ⟨g,i,none⟩ (.slice A' r.length c')) c S m {d with outs:=d.outs.set i r} T k Ak nk ac Al nl now to_∧REff gr gk B F G G' w (W.setCell ⟨g,i,none⟩ (.slice A' r.length c')):=by
 obtain ⟨g,A,ca,Gi,ea,hG,hg,hc,hf,hown,hrow,hGi,hset⟩:=h.kp.dom.out hi
 have hap:=h.kp.apart 4 g hG
 have zk:=(Go.Proofs.YtinlmkhlgclbfabDoor.blk h.kp.blk).2.2
 have zr:=(Go.Proofs.YtinlmkhlgclbfabDoor.blk h.blk).2.2
 refine ⟨g,A,ca,Gi,ea,hG,hg,hc,hf,hown,hrow,fun b hb=>⟨(hGi b hb).1,(hGi b hb).2,h.grG 4 b (hGi b hb).1,(h.kp.apart 4 b (hGi b hb).1).1⟩,fun W A' c' r hK hr hat=>?_⟩
 have hD:=hset W A' c' r hK.1 hK.2.1 hr hat
 have hB:=h.hB
 have hk:∀b,b < w.heap.size→b≠g→¬ Gi b→(W.setCell ⟨g,i,none⟩ (.slice A' r.length c')).heap[b]?=w.heap[b]?:=fun b hb hne hn=>heap_set_far (hK.1 b hb hn) hne
 have hKb:Below B w W:=⟨hK.2.2.os,hK.2.2.tape,hK.2.2.output,hK.2.1,fun b hb=>hK.1 b (by omega) fun e=>by have:=(h.kp.apart 4 b (hGi b e).1).2;omega⟩
 obtain ⟨h1,h2⟩:=h.kp.turn hD (hk gk zk (Ne.symm hap.1) fun e=>(h.kp.apart 4 gk (hGi gk e).1).1 rfl) (Below.setCell hKb hap.2 _) (by simp) (fun j b hb=>by
  rcases hb with hb|hb
  ·exact .inl hb
  ·exact .inr ⟨hb.2.1,by simpa using hb.2.2⟩) fun b hb _ hn=>hk b hb (fun e=>hn 4 (e ▸ hG)) fun e=>hn 4 (hGi b e).1
 exact ⟨_,h.keeper h1 h2,h2.run⟩
theorem runnerHappen_four (h:Rn gr gk G F B w c S m d T k Ak nk ac Al nl now to_)(a:TAct)(ha:ActOk a)(cost:Int)(hk:a.kind=4)(hlt:a.n.toNat < d.outs.length)(hn:d.events.length+1≤4398046511104)(ho:(nth d.outs a.n.toNat).length+1≤4398046511104):
  Calls Tryd.prog 88 #[.pointer (some ⟨gr,0,none⟩),.agg #[.int .i64 a.kind,.int .i64 a.n,.int .i64 a.value],.int .i64 cost] w (RetRn gr gk G F B w c S m (happenA c now a cost d) T.a0 k Ak nk ac Al nl now to_):=by
 obtain ⟨kd,nm,v⟩:=a
 have h0:=ha.name (.inl hk)
 dsimp only at hk h0 hlt ho
 subst hk
 obtain ⟨i,rfl⟩:=Int.eq_ofNat_of_zero_le h0
 dsimp only at hlt ho⊢
 rw [Int.toNat_natCast] at hlt ho
 have e0:happenA c now ⟨4,i,v⟩ cost d=tellOf {d with outs:=d.outs.set i (nth d.outs i++[v])} now 9 i 0:=by unfold happenA;simp
 rw [e0]
 have hbk:=h.blk
 obtain ⟨cb,fb,zb⟩:=blk hbk
 have zk:=(blk h.kp.blk).2.2
 have hlw:=zH h.kp.dom.lt
 have i0:(0:Int)≤i:=by omega
 have i1:(i:Int) < d.outs.length:=by omega
 clear ha e0 h0
 replace h:=zH h
 go_enter Tryd.func88,Tryd.ntmps88
 go_wp2_with fail
 generalize hW1:w.alloc (.cells #[.int .i64 4,.int .i64 i,.int .i64 v] 52)=Wa
 have hb1:Below w.heap.size w Wa:=(by rw [← hW1];exact byB)
 have sz1:Wa.heap.size=w.heap.size+1:=by rw [← hW1];simp
 have hx1:Wa.heap[w.heap.size]?=some (.cells #[.int .i64 4,.int .i64 i,.int .i64 v] 52 (0,0)):=by rw [← hW1];exact heap_alloc_new _ _
 clear hW1 cb fb
 have hE1:=zH (REff.ext (gr:=gr) (gk:=gk) (F:=F) (G:=G) h.out.hB hb1)
 have hR1:=h.out.ext hb1
 obtain ⟨g,Ar,cr,Gi,ea,hG4,hg,c0,hfz,hown,hrow,hGi,hset⟩:=hR1.out hlt
 have hkk:=hR1.kp.blk
 have hgw:=h.out.kp.dom.lt 4 g hG4
 rw [ea] at hkk
 clear ea
 have hxn:∀b,Gi b→b < w.heap.size:=fun b hb=>hlw.out 4 b (hGi b hb).1
 have KR:=zH (fun W (hS:KeepN Wa Gi W)=>(hS.1 gr (by omega) fun e=>(hGi gr e).2.2.1 rfl).trans hR1.blk)
 have KK:=zH (fun W (hS:KeepN Wa Gi W)=>(hS.1 gk (by omega) fun e=>(hGi gk e).2.2.2 rfl).trans hkk)
 have KX:=zH (fun W (hS:KeepN Wa Gi W)=>(hS.1 w.heap.size (by omega) fun e=>by have:=hxn _ e;omega).trans hx1)
 have KQ:=zH (fun W (hS:KeepN Wa Gi W)=>(World.cell?_of_block (hS.1 g hg fun e=>(hGi g e).2.1 rfl)).trans c0)
 have KF:=zH (fun W (hS:KeepN Wa Gi W)=>(fun o=>(World.frozen?_of_block (hS.1 g hg fun e=>(hGi g e).2.1 rfl)).trans (hfz o):∀o,W.frozen? ⟨g,o,none⟩=false))
 have hown1:=zH hown
 have hrow1:=zH hrow
 have hset1:=zH hset
 have hxn1:=zH hxn
 have hw1:=zH (⟨hR1,hlw.out,hx1⟩:_∧_∧_)
 replace hGi:=zH hGi
 clear hown hrow hset c0 hfz hkk hbk h hlw hR1 hx1 hxn
 refine wp_region_invT 26 [25,26,27,28,29,30,31,32,33,34,35,36,37,38,39,40,41,42,43,44,45,46,47,48,49,50] (fun l f W=>(l.size=28∧KeepN Wa Gi W∧(Lst l 25∨Below Wa.heap.size Wa W))∧Fa l 0 (f 25= .pointer (some ⟨gr,0,none⟩))∧Fa l 1 (f 26= .pointer (some ⟨gr,0,none⟩))∧Fa l 2 (f 27= .pointer (some ⟨gr,0,none⟩))∧Fa l 3 (f 28= .pointer (some ⟨gk,0,none⟩))∧Fa l 4 (f 29= .pointer (some ⟨gk,0,none⟩))∧Fa l 5 (f 30= .pointer (some ⟨gk,10,none⟩))∧Fa l 6 (f 31= .pointer (some ⟨gk,15,none⟩))∧Fa l 7 (f 32= .slice (some ⟨g,0,none⟩) d.outs.length T.n4)∧Fa l 8 (f 33= .pointer (some ⟨w.heap.size,1,none⟩))∧Fa l 9 (f 34= .int .i64 i)∧Fa l 10 (f 35= .pointer (some ⟨gr,0,none⟩))∧Fa l 11 (f 36= .pointer (some ⟨gr,0,none⟩))∧Fa l 12 (f 37= .pointer (some ⟨gr,0,none⟩))∧Fa l 13 (f 38= .pointer (some ⟨gk,0,none⟩))∧Fa l 14 (f 39= .pointer (some ⟨gk,0,none⟩))∧Fa l 15 (f 40= .pointer (some ⟨gk,10,none⟩))∧Fa l 16 (f 41= .pointer (some ⟨gk,15,none⟩))∧Fa l 17 (f 42= .slice (some ⟨g,0,none⟩) d.outs.length T.n4)∧Fa l 18 (f 43= .pointer (some ⟨w.heap.size,1,none⟩))∧Fa l 19 (f 44= .int .i64 i)∧Fa l 20 (f 45= .pointer (some ⟨g,i,none⟩))∧Fa l 21 (f 46= .slice Ar (nth d.outs i).length cr)∧Fa l 22 (f 47= .pointer (some ⟨w.heap.size,2,none⟩))∧Fa l 23 (f 48= .int .i64 v)∧Fa l 24 (∃gn,f 49= .slice (some ⟨gn,0,none⟩) 1 1∧Wa.heap.size≤gn∧gn < W.heap.size∧W.heap[gn]?=some (.cells #[.int .i64 v] 3 (0,0)))∧Fa l 25 (∃A3 c3,f 50= .slice A3 ((nth d.outs i).length+1) c3∧ownsZ W 3 1 (.slice A3 ((nth d.outs i).length+1) c3) ((nth d.outs i).length+1) (((nth d.outs i).flatMap fun n=>[Value.int .i64 n])++[.int .i64 v])∧(∀b,rowZ (.slice A3 ((nth d.outs i).length+1) c3)=some b→Gi b∨(Wa.heap.size≤b∧b < W.heap.size)))) (by kernel_rfl) (by decide) (by kernel_rfl) (by kernel_rfl) (by intro s hs;simp at hs⊢;omega) ?_ ?_ ?_
 ·intro l hz hl
  exact ⟨⟨hz,⟨fun _ _ _=>rfl,Nat.le_refl _,(Below.refl _ _).drew⟩,.inr (Below.refl _ _).drew⟩,.no (hl 0),.no (hl 1),.no (hl 2),.no (hl 3),.no (hl 4),.no (hl 5),.no (hl 6),.no (hl 7),.no (hl 8),.no (hl 9),.no (hl 10),.no (hl 11),.no (hl 12),.no (hl 13),.no (hl 14),.no (hl 15),.no (hl 16),.no (hl 17),.no (hl 18),.no (hl 19),.no (hl 20),.no (hl 21),.no (hl 22),.no (hl 23),.no (hl 24),.no (hl 25)⟩
 ·simp only [List.take_succ_cons,List.take_zero]
  refine StepsL.c 1 [] (fun l f W hR hn hb K Q2 hK=>?_) ?_
  ·obtain ⟨hS,h0,h1,h2,h3,h4,h5,h6,h7,h8,h9,h10,h11,h12,h13,h14,h15,h16,h17,h18,h19,h20,h21,h22,h23,h24,h25⟩:=hR
   obtain ⟨hz,hS,hO⟩:=hS
   clear hb
   refine ⟨?_⟩
   simp only [pfs] at hK⊢
   go_simp
   exact hK.out _ _ byK
  refine StepsL.c 2 [0] (fun l f W hR hn hb K Q2 hK=>?_) ?_
  ·obtain ⟨hS,h0,h1,h2,h3,h4,h5,h6,h7,h8,h9,h10,h11,h12,h13,h14,h15,h16,h17,h18,h19,h20,h21,h22,h23,h24,h25⟩:=hR
   have q0:=h0.out (hb 0 (by simp))
   obtain ⟨hz,hS,hO⟩:=hS
   clear hb
   refine ⟨?_⟩
   simp only [pfs] at hK⊢
   (try simp only [q0] at hK)
   go_simp
   exact hK.out _ _ byK
  refine StepsL.c 3 [1] (fun l f W hR hn hb K Q2 hK=>?_) ?_
  ·obtain ⟨hS,h0,h1,h2,h3,h4,h5,h6,h7,h8,h9,h10,h11,h12,h13,h14,h15,h16,h17,h18,h19,h20,h21,h22,h23,h24,h25⟩:=hR
   have q1:=h1.out (hb 1 (by simp))
   obtain ⟨hz,hS,hO⟩:=hS
   clear hb
   refine ⟨?_⟩
   simp only [pfs] at hK⊢
   (try simp only [q1] at hK)
   go_simp
   exact hK.out _ _ byK
  refine StepsL.c 4 [2] (fun l f W hR hn hb K Q2 hK=>?_) ?_
  ·obtain ⟨hS,h0,h1,h2,h3,h4,h5,h6,h7,h8,h9,h10,h11,h12,h13,h14,h15,h16,h17,h18,h19,h20,h21,h22,h23,h24,h25⟩:=hR
   have q2:=h2.out (hb 2 (by simp))
   obtain ⟨hz,hS,hO⟩:=hS
   clear hb
   refine ⟨?_⟩
   simp only [pfs] at hK⊢
   (try simp only [q2] at hK)
   obtain ⟨cX,fX,zX⟩:=blk (KR.out W hS)
   go_simp
   exact hK.out _ _ byK
  refine StepsL.c 5 [3] (fun l f W hR hn hb K Q2 hK=>?_) ?_
  ·obtain ⟨hS,h0,h1,h2,h3,h4,h5,h6,h7,h8,h9,h10,h11,h12,h13,h14,h15,h16,h17,h18,h19,h20,h21,h22,h23,h24,h25⟩:=hR
   have q3:=h3.out (hb 3 (by simp))
   obtain ⟨hz,hS,hO⟩:=hS
   clear hb
   refine ⟨?_⟩
   simp only [pfs] at hK⊢
   (try simp only [q3] at hK)
   go_simp
   exact hK.out _ _ byK
  refine StepsL.c 6 [4] (fun l f W hR hn hb K Q2 hK=>?_) ?_
  ·obtain ⟨hS,h0,h1,h2,h3,h4,h5,h6,h7,h8,h9,h10,h11,h12,h13,h14,h15,h16,h17,h18,h19,h20,h21,h22,h23,h24,h25⟩:=hR
   have q4:=h4.out (hb 4 (by simp))
   obtain ⟨hz,hS,hO⟩:=hS
   clear hb
   refine ⟨?_⟩
   simp only [pfs] at hK⊢
   (try simp only [q4] at hK)
   go_simp
   exact hK.out _ _ byK
  refine StepsL.c 7 [5] (fun l f W hR hn hb K Q2 hK=>?_) ?_
  ·obtain ⟨hS,h0,h1,h2,h3,h4,h5,h6,h7,h8,h9,h10,h11,h12,h13,h14,h15,h16,h17,h18,h19,h20,h21,h22,h23,h24,h25⟩:=hR
   have q5:=h5.out (hb 5 (by simp))
   obtain ⟨hz,hS,hO⟩:=hS
   clear hb
   refine ⟨?_⟩
   simp only [pfs] at hK⊢
   (try simp only [q5] at hK)
   go_simp
   exact hK.out _ _ byK
  refine StepsL.c 8 [6] (fun l f W hR hn hb K Q2 hK=>?_) ?_
  ·obtain ⟨hS,h0,h1,h2,h3,h4,h5,h6,h7,h8,h9,h10,h11,h12,h13,h14,h15,h16,h17,h18,h19,h20,h21,h22,h23,h24,h25⟩:=hR
   have q6:=h6.out (hb 6 (by simp))
   obtain ⟨hz,hS,hO⟩:=hS
   clear hb
   refine ⟨?_⟩
   simp only [pfs] at hK⊢
   (try simp only [q6] at hK)
   obtain ⟨cX,fX,zX⟩:=blk (KK.out W hS)
   go_simp
   exact hK.out _ _ byK
  refine StepsL.c 9 [] (fun l f W hR hn hb K Q2 hK=>?_) ?_
  ·obtain ⟨hS,h0,h1,h2,h3,h4,h5,h6,h7,h8,h9,h10,h11,h12,h13,h14,h15,h16,h17,h18,h19,h20,h21,h22,h23,h24,h25⟩:=hR
   obtain ⟨hz,hS,hO⟩:=hS
   clear hb
   refine ⟨?_⟩
   simp only [pfs] at hK⊢
   go_simp
   exact hK.out _ _ byK
  refine StepsL.c 10 [8] (fun l f W hR hn hb K Q2 hK=>?_) ?_
  ·obtain ⟨hS,h0,h1,h2,h3,h4,h5,h6,h7,h8,h9,h10,h11,h12,h13,h14,h15,h16,h17,h18,h19,h20,h21,h22,h23,h24,h25⟩:=hR
   have q8:=h8.out (hb 8 (by simp))
   obtain ⟨hz,hS,hO⟩:=hS
   clear hb
   refine ⟨?_⟩
   simp only [pfs] at hK⊢
   (try simp only [q8] at hK)
   obtain ⟨cX,fX,zX⟩:=blk (KX.out W hS)
   go_simp
   exact hK.out _ _ byK
  refine StepsL.c 11 [] (fun l f W hR hn hb K Q2 hK=>?_) ?_
  ·obtain ⟨hS,h0,h1,h2,h3,h4,h5,h6,h7,h8,h9,h10,h11,h12,h13,h14,h15,h16,h17,h18,h19,h20,h21,h22,h23,h24,h25⟩:=hR
   obtain ⟨hz,hS,hO⟩:=hS
   clear hb
   refine ⟨?_⟩
   simp only [pfs] at hK⊢
   go_simp
   exact hK.out _ _ byK
  refine StepsL.c 12 [10] (fun l f W hR hn hb K Q2 hK=>?_) ?_
  ·obtain ⟨hS,h0,h1,h2,h3,h4,h5,h6,h7,h8,h9,h10,h11,h12,h13,h14,h15,h16,h17,h18,h19,h20,h21,h22,h23,h24,h25⟩:=hR
   have q10:=h10.out (hb 10 (by simp))
   obtain ⟨hz,hS,hO⟩:=hS
   clear hb
   refine ⟨?_⟩
   simp only [pfs] at hK⊢
   (try simp only [q10] at hK)
   go_simp
   exact hK.out _ _ byK
  refine StepsL.c 13 [11] (fun l f W hR hn hb K Q2 hK=>?_) ?_
  ·obtain ⟨hS,h0,h1,h2,h3,h4,h5,h6,h7,h8,h9,h10,h11,h12,h13,h14,h15,h16,h17,h18,h19,h20,h21,h22,h23,h24,h25⟩:=hR
   have q11:=h11.out (hb 11 (by simp))
   obtain ⟨hz,hS,hO⟩:=hS
   clear hb
   refine ⟨?_⟩
   simp only [pfs] at hK⊢
   (try simp only [q11] at hK)
   go_simp
   exact hK.out _ _ byK
  refine StepsL.c 14 [12] (fun l f W hR hn hb K Q2 hK=>?_) ?_
  ·obtain ⟨hS,h0,h1,h2,h3,h4,h5,h6,h7,h8,h9,h10,h11,h12,h13,h14,h15,h16,h17,h18,h19,h20,h21,h22,h23,h24,h25⟩:=hR
   have q12:=h12.out (hb 12 (by simp))
   obtain ⟨hz,hS,hO⟩:=hS
   clear hb
   refine ⟨?_⟩
   simp only [pfs] at hK⊢
   (try simp only [q12] at hK)
   obtain ⟨cX,fX,zX⟩:=blk (KR.out W hS)
   go_simp
   exact hK.out _ _ byK
  refine StepsL.c 15 [13] (fun l f W hR hn hb K Q2 hK=>?_) ?_
  ·obtain ⟨hS,h0,h1,h2,h3,h4,h5,h6,h7,h8,h9,h10,h11,h12,h13,h14,h15,h16,h17,h18,h19,h20,h21,h22,h23,h24,h25⟩:=hR
   have q13:=h13.out (hb 13 (by simp))
   obtain ⟨hz,hS,hO⟩:=hS
   clear hb
   refine ⟨?_⟩
   simp only [pfs] at hK⊢
   (try simp only [q13] at hK)
   go_simp
   exact hK.out _ _ byK
  refine StepsL.c 16 [14] (fun l f W hR hn hb K Q2 hK=>?_) ?_
  ·obtain ⟨hS,h0,h1,h2,h3,h4,h5,h6,h7,h8,h9,h10,h11,h12,h13,h14,h15,h16,h17,h18,h19,h20,h21,h22,h23,h24,h25⟩:=hR
   have q14:=h14.out (hb 14 (by simp))
   obtain ⟨hz,hS,hO⟩:=hS
   clear hb
   refine ⟨?_⟩
   simp only [pfs] at hK⊢
   (try simp only [q14] at hK)
   go_simp
   exact hK.out _ _ byK
  refine StepsL.c 17 [15] (fun l f W hR hn hb K Q2 hK=>?_) ?_
  ·obtain ⟨hS,h0,h1,h2,h3,h4,h5,h6,h7,h8,h9,h10,h11,h12,h13,h14,h15,h16,h17,h18,h19,h20,h21,h22,h23,h24,h25⟩:=hR
   have q15:=h15.out (hb 15 (by simp))
   obtain ⟨hz,hS,hO⟩:=hS
   clear hb
   refine ⟨?_⟩
   simp only [pfs] at hK⊢
   (try simp only [q15] at hK)
   go_simp
   exact hK.out _ _ byK
  refine StepsL.c 18 [16] (fun l f W hR hn hb K Q2 hK=>?_) ?_
  ·obtain ⟨hS,h0,h1,h2,h3,h4,h5,h6,h7,h8,h9,h10,h11,h12,h13,h14,h15,h16,h17,h18,h19,h20,h21,h22,h23,h24,h25⟩:=hR
   have q16:=h16.out (hb 16 (by simp))
   obtain ⟨hz,hS,hO⟩:=hS
   clear hb
   refine ⟨?_⟩
   simp only [pfs] at hK⊢
   (try simp only [q16] at hK)
   obtain ⟨cX,fX,zX⟩:=blk (KK.out W hS)
   go_simp
   exact hK.out _ _ byK
  refine StepsL.c 19 [] (fun l f W hR hn hb K Q2 hK=>?_) ?_
  ·obtain ⟨hS,h0,h1,h2,h3,h4,h5,h6,h7,h8,h9,h10,h11,h12,h13,h14,h15,h16,h17,h18,h19,h20,h21,h22,h23,h24,h25⟩:=hR
   obtain ⟨hz,hS,hO⟩:=hS
   clear hb
   refine ⟨?_⟩
   simp only [pfs] at hK⊢
   go_simp
   exact hK.out _ _ byK
  refine StepsL.c 20 [18] (fun l f W hR hn hb K Q2 hK=>?_) ?_
  ·obtain ⟨hS,h0,h1,h2,h3,h4,h5,h6,h7,h8,h9,h10,h11,h12,h13,h14,h15,h16,h17,h18,h19,h20,h21,h22,h23,h24,h25⟩:=hR
   have q18:=h18.out (hb 18 (by simp))
   obtain ⟨hz,hS,hO⟩:=hS
   clear hb
   refine ⟨?_⟩
   simp only [pfs] at hK⊢
   (try simp only [q18] at hK)
   obtain ⟨cX,fX,zX⟩:=blk (KX.out W hS)
   go_simp
   exact hK.out _ _ byK
  refine StepsL.c 21 [17,19] (fun l f W hR hn hb K Q2 hK=>?_) ?_
  ·obtain ⟨hS,h0,h1,h2,h3,h4,h5,h6,h7,h8,h9,h10,h11,h12,h13,h14,h15,h16,h17,h18,h19,h20,h21,h22,h23,h24,h25⟩:=hR
   have q17:=h17.out (hb 17 (by simp))
   have q19:=h19.out (hb 19 (by simp))
   obtain ⟨hz,hS,hO⟩:=hS
   clear hb
   refine ⟨?_⟩
   simp only [pfs] at hK⊢
   (try simp only [q17,q19] at hK)
   go_simp
   exact hK.out _ _ byK
  refine StepsL.c 22 [20] (fun l f W hR hn hb K Q2 hK=>?_) ?_
  ·obtain ⟨hS,h0,h1,h2,h3,h4,h5,h6,h7,h8,h9,h10,h11,h12,h13,h14,h15,h16,h17,h18,h19,h20,h21,h22,h23,h24,h25⟩:=hR
   have q20:=h20.out (hb 20 (by simp))
   obtain ⟨hz,hS,hO⟩:=hS
   clear hb
   refine ⟨?_⟩
   simp only [pfs] at hK⊢
   (try simp only [q20] at hK)
   have kc:=KQ.out W hS
   go_simp
   exact hK.out _ _ byK
  refine StepsL.c 23 [] (fun l f W hR hn hb K Q2 hK=>?_) ?_
  ·obtain ⟨hS,h0,h1,h2,h3,h4,h5,h6,h7,h8,h9,h10,h11,h12,h13,h14,h15,h16,h17,h18,h19,h20,h21,h22,h23,h24,h25⟩:=hR
   obtain ⟨hz,hS,hO⟩:=hS
   clear hb
   refine ⟨?_⟩
   simp only [pfs] at hK⊢
   go_simp
   exact hK.out _ _ byK
  refine StepsL.c 24 [22] (fun l f W hR hn hb K Q2 hK=>?_) ?_
  ·obtain ⟨hS,h0,h1,h2,h3,h4,h5,h6,h7,h8,h9,h10,h11,h12,h13,h14,h15,h16,h17,h18,h19,h20,h21,h22,h23,h24,h25⟩:=hR
   have q22:=h22.out (hb 22 (by simp))
   obtain ⟨hz,hS,hO⟩:=hS
   clear hb
   refine ⟨?_⟩
   simp only [pfs] at hK⊢
   (try simp only [q22] at hK)
   obtain ⟨cX,fX,zX⟩:=blk (KX.out W hS)
   go_simp
   exact hK.out _ _ byK
  refine StepsL.c 25 [23] (fun l f W hR hn hb K Q2 hK=>?_) ?_
  ·obtain ⟨hS,h0,h1,h2,h3,h4,h5,h6,h7,h8,h9,h10,h11,h12,h13,h14,h15,h16,h17,h18,h19,h20,h21,h22,h23,h24,h25⟩:=hR
   have q23:=h23.out (hb 23 (by simp))
   obtain ⟨hz,hS,hO⟩:=hS
   clear hb
   refine ⟨?_⟩
   simp only [pfs] at hK⊢
   (try simp only [q23] at hK)
   go_simp
   refine hK.out _ _ ⟨⟨by simpa using hz,⟨fun b hb hnn=>(heap_alloc_old _ _ (by have:=hS.2.1;omega)).trans (hS.1 b hb hnn),by have:=hS.2.1;simp;omega,hS.2.2.alloc (Nat.zero_le _) _⟩,hO.imp Lst.fwd (fun hh=>hh.alloc (by have:=hh.size;omega) _)⟩,h0.k,h1.k,h2.k,h3.k,h4.k,h5.k,h6.k,h7.k,h8.k,h9.k,h10.k,h11.k,h12.k,h13.k,h14.k,h15.k,h16.k,h17.k,h18.k,h19.k,h20.k,h21.k,h22.k,h23.k,⟨fun _=>⟨W.heap.size,rfl,hS.2.1,by simp,heap_alloc_new _ _⟩⟩,⟨fun hl=>let ⟨A3,c3,e,o,r⟩:=(h25.out hl.b);⟨A3,c3,e,ownZ_keep o (fun b hb=>heap_alloc_old _ _ (ownZ_lt o b hb)),fun b hb=>(r b hb).imp id (fun h=>⟨h.1,by simp;omega⟩)⟩⟩⟩
  refine StepsL.c 26 [21,24] (fun l f W hR hn hb K Q2 hK=>?_) ?_
  ·obtain ⟨hS,h0,h1,h2,h3,h4,h5,h6,h7,h8,h9,h10,h11,h12,h13,h14,h15,h16,h17,h18,h19,h20,h21,h22,h23,h24,h25⟩:=hR
   have q21:=h21.out (hb 21 (by simp))
   have q24:=h24.out (hb 24 (by simp))
   obtain ⟨hz,hS,hO⟩:=hS
   obtain ⟨gn,e24,g24,l24,b24⟩:=q24
   have hOld:=hO.resolve_left hn
   have hsz:=hS.2.1
   have hown2:=ownZ_keep hown1.out fun b hb=>hOld.block b (by have:=hxn1.out b (hrow1.out b hb);omega)
   have hsrc:Src W (some ⟨gn,0,none⟩) 1 1 [Value.int .i64 v]:=⟨rfl,fun _=>⟨gn,0,rfl,fun j u hu=>by rw [Nat.zero_add,(blk b24).1];simpa using hu⟩⟩
   clear hb
   refine ⟨?_⟩
   simp only [pfs] at hK⊢
   (try simp only [q21,e24] at hK)
   simp only [q21,e24]
   refine wp_appZ (.tmp 46) (.tmp 49) _ rfl tyInt (.slice Ar (nth d.outs i).length cr) (nth d.outs i).length ((nth d.outs i).flatMap fun n=>[Value.int .i64 n]) (by rfl) hown2 (some ⟨gn,0,none⟩) 1 1 [.int .i64 v] (by rfl) hsrc (one_one rfl) (by unfold maxLen;omega) (by omega) (fun A3 c3 w3 own3 gr3 at3=>?_)
   simp only [Act.put,List.setIfInBounds_toArray,List.set_cons_zero,List.set_cons_succ]
   refine hK.out _ _ ⟨⟨by simpa using hz,⟨fun b hb hnn=>(gr3.block b (by omega) (fun e2=>hnn (hrow1.out b e2.symm))).trans (hS.1 b hb hnn),by have:=gr3.size;omega,hS.2.2.grown gr3 (Nat.zero_le _) (fun _ _=>Nat.zero_le _)⟩,.inl (Lst.self (by rw [hz];omega))⟩,h0.k,h1.k,h2.k,h3.k,h4.k,h5.k,h6.k,h7.k,h8.k,h9.k,h10.k,h11.k,h12.k,h13.k,h14.k,h15.k,h16.k,h17.k,h18.k,h19.k,h20.k,h21.k,h22.k,h23.k,⟨fun hl=>let ⟨gn,a,b,cc,e⟩:=(h24.out hl.b);⟨gn,a,b,by have:=gr3.size;omega,(gr3.block gn cc (fun e2=>by have:=hxn1.out gn (hrow1.out gn e2.symm);omega)).trans e⟩⟩,⟨fun _=>⟨A3,c3,rfl,own3,fun b hb=>by rcases at3 b hb with e|e;exact .inl (hrow1.out b e);exact .inr ⟨by omega,ownZ_lt own3 b hb⟩⟩⟩⟩
  exact StepsL.nil
 ·intro l f W hR hall
  obtain ⟨hS,h0,h1,h2,h3,h4,h5,h6,h7,h8,h9,h10,h11,h12,h13,h14,h15,h16,h17,h18,h19,h20,h21,h22,h23,h24,h25⟩:=hR
  have q0:=h0.out (hall 0 (by decide))
  have q1:=h1.out (hall 1 (by decide))
  have q2:=h2.out (hall 2 (by decide))
  have q3:=h3.out (hall 3 (by decide))
  have q4:=h4.out (hall 4 (by decide))
  have q5:=h5.out (hall 5 (by decide))
  have q6:=h6.out (hall 6 (by decide))
  have q7:=h7.out (hall 7 (by decide))
  have q8:=h8.out (hall 8 (by decide))
  have q9:=h9.out (hall 9 (by decide))
  have q10:=h10.out (hall 10 (by decide))
  have q11:=h11.out (hall 11 (by decide))
  have q12:=h12.out (hall 12 (by decide))
  have q13:=h13.out (hall 13 (by decide))
  have q14:=h14.out (hall 14 (by decide))
  have q15:=h15.out (hall 15 (by decide))
  have q16:=h16.out (hall 16 (by decide))
  have q17:=h17.out (hall 17 (by decide))
  have q18:=h18.out (hall 18 (by decide))
  have q19:=h19.out (hall 19 (by decide))
  have q20:=h20.out (hall 20 (by decide))
  have q21:=h21.out (hall 21 (by decide))
  have q22:=h22.out (hall 22 (by decide))
  have q23:=h23.out (hall 23 (by decide))
  have q24:=h24.out (hall 24 (by decide))
  have q25:=h25.out (hall 25 (by decide))
  clear h0 h1 h2 h3 h4 h5 h6 h7 h8 h9 h10 h11 h12 h13 h14 h15 h16 h17 h18 h19 h20 h21 h22 h23 h24 h25
  simp only [List.drop_succ_cons,List.drop_zero]
  obtain ⟨hz,hS,_⟩:=hS
  obtain ⟨A3,c3,e25,hown3,hrow3⟩:=q25
  simp only [pfs]
  simp only [q7,q9,e25]
  clear q0 q1 q2 q3 q4 q5 q6 q7 q8 q9 q10 q11 q12 q13 q14 q15 q16 q17 q18 q19 q20 q21 q22 q23 q24 e25 hall
  obtain ⟨W3,hW3⟩:∃W3,W3=W.setCell ⟨g,i,none⟩ (.slice A3 ((nth d.outs i).length+1) c3):=⟨_,rfl⟩
  have hfin:∃G',Rn gr gk G' F B W3 c S m {d with outs:=d.outs.set i (nth d.outs i++[v])} T k Ak nk ac Al nl now to_∧REff gr gk B F G G' w W3:=by
   have hs3:=hset1.out W A3 c3 (nth d.outs i++[v]) hS (by rw [List.length_append,List.flatMap_append];simpa using hown3) (by rw [List.length_append];exact hrow3)
   rw [List.length_append] at hs3
   obtain ⟨G',r1,r2⟩:=hs3
   exact ⟨G',by rw [hW3];exact r1,by rw [hW3];exact hE1.out.trans r2⟩
  obtain ⟨G3,hR3,hE3⟩:=hfin
  have hx3:W3.heap[w.heap.size]?=some (.cells #[.int .i64 4,.int .i64 i,.int .i64 v] 52 (0,0)):=by rw [hW3];exact heap_set_far (KX.out W hS) (by simp;omega)
  have kq:=KQ.out W hS
  have kf:=KF.out W hS
  have HT:=zH (fun W4 (hb:Below W3.heap.size W3 W4) t kd x y=>runnerTell_from hR3 hb t kd x y hn)
  have hE4:=zH hE3
  obtain ⟨cb3,fb3,zb3⟩:=blk hR3.blk
  obtain ⟨cx3,fx3,zx3⟩:=blk hx3
  clear hown3 hrow3 hR3 hE3 hx3 hset1 hown1 hw1 KR KK KX KQ KF hS
  go_upto_region 8 with (fail)
  rw [← hW3]
  clear hW3
  (refine wp_region_still_tail 10 (by kernel_rfl) (by kernel_rfl) ?_;simp only [List.take_succ_cons,List.take_zero,List.drop_succ_cons,List.drop_zero];(iterate 10 (with_reducible refine wpStill_step (fun K hK=>?_);replace hK:=zH hK;go_simp;with_reducible refine hK.out _ ?_;clear hK K));refine wpStill_nil ?_)
  go_wp2_with fail
  go_at_call 82
  refine (HT.out _ byB _ _ _ _).mono ?_
  rintro e w1 ⟨hr,-⟩
  have hr2:=hr.from hE4.out
  obtain ⟨rfl,hr3⟩:=hr2
  replace hr3:=zH hr3
  clear hr
  go_wp2_with fail
  refine bodyPost_end (v:= .tuple #[]) (by simp [results,Tryd.results88,go_sem, *]) rfl ?_
  exact ⟨rfl,hr3.out⟩
end
end Go.Proofs.YtinlmkhlgclbfabDoor
