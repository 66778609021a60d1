/- WinH -/
import Derived.Test.YtinlmkhlgclbfabDoorAs21
import Derived.Test.YtinlmkhlgclbfabDoorAs22
namespace Go.Proofs.YtinlmkhlgclbfabDoor
open Go.RowKit
set_option maxRecDepth 100000
set_option maxHeartbeats 8000000
section
variable {gr gk : Nat} {G : Nat → Nat → Prop} {F : Nat → Prop} {B : Nat} {w : World} {c : TCfg} {S : TCfgS} {m : Int} {d : TDom} {T : TDomS} {k : List (List TWay)} {Ak : Option Addr} {nk : Nat} {ac : List TAct} {Al : Option Addr} {nl : Nat} {now to_ : Int}
theorem Rn.ring (h:Rn gr gk G F B w c S m d T k Ak nk ac Al nl now to_){i:Nat}(hi:i < d.ins.length):
  ∃g A ca,T.a2=some ⟨g,0,none⟩∧G 2 g∧g < w.heap.size∧w.cell? ⟨g,i*2,none⟩=some (.slice A (nth d.ins i).vals.length ca)∧w.cell? ⟨g,i*2+1,none⟩=some (.int .i64 (nth d.ins i).lost)∧(∀o,w.frozen? ⟨g,o,none⟩=false)∧Sl cInt (Low w.heap.size) w A ca (nth d.ins i).vals∧
   ∀(W:World) (A':Option Addr) (c':Nat) (r:TRing),Below w.heap.size w W→ownsZ W 3 1 (.slice A' r.vals.length c') r.vals.length (r.vals.flatMap fun n=>[Value.int .i64 n])→
    (∀b,rowZ (.slice A' r.vals.length c')=some b→w.heap.size≤b∧b < W.heap.size)→
    ∃G',Rn gr gk G' F B ((W.setCell ⟨g,i*2,none⟩ (.slice A' r.vals.length c')).setCell ⟨g,i*2+1,none⟩ (.int .i64 r.lost)) c S m {d with ins:=d.ins.set i r} T k Ak nk ac Al nl now to_∧REff gr gk B F G G' w ((W.setCell ⟨g,i*2,none⟩ (.slice A' r.vals.length c')).setCell ⟨g,i*2+1,none⟩ (.int .i64 r.lost)):=by
 obtain ⟨g,A,ca,ea,hG,hg,c0,c1,hf,hsl,hset⟩:=h.kp.dom.ring hi
 have hap:=h.kp.apart 2 g hG
 have zk:=(Go.Proofs.YtinlmkhlgclbfabDoor.blk h.kp.blk).2.2
 refine ⟨g,A,ca,ea,hG,hg,c0,c1,hf,hsl.mono fun b hb=>h.kp.dom.lt 2 b hb,fun W A' c' r hK hr hat=>?_⟩
 have hD:=hset W A' c' r (fun b hb=>hK.block b hb) hK.size hr hat
 have hB:=h.hB
 have hk:∀b,b < w.heap.size→b≠g→((W.setCell ⟨g,i*2,none⟩ (.slice A' r.vals.length c')).setCell ⟨g,i*2+1,none⟩ (.int .i64 r.lost)).heap[b]?=w.heap[b]?:=fun b hb hne=>heap_set_far (heap_set_far (hK.block b hb) hne) hne
 obtain ⟨h1,h2⟩:=h.kp.turn hD (hk gk zk (Ne.symm hap.1)) (Below.setCell (Below.setCell (hK.mono hB) hap.2 _) hap.2 _) (by simp) (fun j b hb=>by
  rcases hb with hb|hb
  ·exact .inl hb
  ·exact .inr ⟨hb.2.1,by simpa using hb.2.2⟩) fun b hb _ hn=>hk b hb (fun e=>hn 2 (e ▸ hG))
 exact ⟨_,h.keeper h1 h2,h2.run⟩
theorem runnerHappen_five (h:Rn gr gk G F B w c S m d T k Ak nk ac Al nl now to_)(a:TAct)(ha:ActOk a)(cost:Int)(hk:a.kind=5)(hlt:a.n.toNat < d.ins.length)(hn:d.events.length+1≤4398046511104)(ho:(nth d.ins a.n.toNat).vals.length≤4):
  Calls Tryd.prog 88 #[.pointer (some ⟨gr,0,none⟩),.agg #[.int .i64 a.kind,.int .i64 a.n,.int .i64 a.value],.int .i64 cost] w (RetRn gr gk G F B w c S m (happenA c now a cost d) T.a0 k Ak nk ac Al nl now to_):=by
 obtain ⟨kd,nm,v⟩:=a
 have h0:=ha.name (.inr (.inl hk))
 dsimp only at hk h0 hlt ho
 subst hk
 obtain ⟨i,rfl⟩:=Int.eq_ofNat_of_zero_le h0
 dsimp only at hlt ho⊢
 rw [Int.toNat_natCast] at hlt ho
 have e0:happenA c now ⟨5,i,v⟩ cost d=tellOf {d with ins:=d.ins.set i (takeR (nth d.ins i))} now 8 i (takeV (nth d.ins i).vals):=by unfold happenA;simp
 rw [e0]
 have hbk:=h.blk
 obtain ⟨cb,fb,zb⟩:=blk hbk
 have zk:=(blk h.kp.blk).2.2
 have hlw:=zH h.kp.dom.lt
 have i0:(0:Int)≤i:=by omega
 have i1:(i:Int) < d.ins.length:=by omega
 clear ha e0 h0
 replace h:=zH h
 go_enter Tryd.func88,Tryd.ntmps88
 go_wp2_with fail
 generalize hW1:w.alloc (.cells #[.int .i64 5,.int .i64 i,.int .i64 v] 52)=Wa
 have hb1:Below w.heap.size w Wa:=(by rw [← hW1];exact byB)
 have sz1:Wa.heap.size=w.heap.size+1:=by rw [← hW1];simp
 have hx1:Wa.heap[w.heap.size]?=some (.cells #[.int .i64 5,.int .i64 i,.int .i64 v] 52 (0,0)):=by rw [← hW1];exact heap_alloc_new _ _
 clear hW1 cb fb
 have hE1:=zH (REff.ext (gr:=gr) (gk:=gk) (F:=F) (G:=G) h.out.hB hb1)
 have hR1:=h.out.ext hb1
 obtain ⟨g,Ar,cr,ea,hG2,hg,c0,c1,hfz,hsl,hset⟩:=hR1.ring hlt
 have hkk:=hR1.kp.blk
 have hgw:=h.out.kp.dom.lt 2 g hG2
 rw [ea] at hkk
 clear ea
 have KR:=zH (fun W (hS:Below Wa.heap.size Wa W)=>(hS.block gr (by omega)).trans hR1.blk)
 have KK:=zH (fun W (hS:Below Wa.heap.size Wa W)=>(hS.block gk (by omega)).trans hkk)
 have KX:=zH (fun W (hS:Below Wa.heap.size Wa W)=>(hS.block w.heap.size (by omega)).trans hx1)
 have KQ:=zH (fun W (hS:Below Wa.heap.size Wa W)=>(⟨(hS.cell (p:=⟨g,i*2,none⟩) hg).trans c0,(hS.cell (p:=⟨g,i*2+1,none⟩) hg).trans c1⟩:_∧_))
 have KF:=zH (fun W (hS:Below Wa.heap.size Wa W)=>(fun o=>(hS.frozen (p:=⟨g,o,none⟩) hg).trans (hfz o):∀o,W.frozen? ⟨g,o,none⟩=false))
 have HM:=zH (fun W (hS:Below Wa.heap.size Wa W)=>mailTake (nth d.ins i).vals (nth d.ins i).lost Ar cr Wa.heap.size W hS.size (hsl.keep fun b hb=>hS.block b hb) (by omega))
 have hset1:=zH hset
 have hw1:=zH (⟨hR1,hlw.out,hx1⟩:_∧_∧_)
 clear hsl hset c0 c1 hfz hkk hbk h hlw hR1 hx1
 refine wp_region_invT 28 [66,67,68,69,70,71,72,73,74,75,76,77,78,79,80,81,82,83,84,85,86,87,88,65,89,90,91] (fun l f W=>(l.size=29∧((Lst l 27∧∀j,j < 27→j≠25→Lst l j)∨(¬ Lst l 27∧Below Wa.heap.size Wa W)))∧Fa l 0 (f 66= .pointer (some ⟨gr,0,none⟩))∧Fa l 1 (f 67= .pointer (some ⟨gr,0,none⟩))∧Fa l 2 (f 68= .pointer (some ⟨gr,0,none⟩))∧Fa l 3 (f 69= .pointer (some ⟨gk,0,none⟩))∧Fa l 4 (f 70= .pointer (some ⟨gk,0,none⟩))∧Fa l 5 (f 71= .pointer (some ⟨gk,10,none⟩))∧Fa l 6 (f 72= .pointer (some ⟨gk,13,none⟩))∧Fa l 7 (f 73= .slice (some ⟨g,0,none⟩) d.ins.length T.n2)∧Fa l 8 (f 74= .pointer (some ⟨w.heap.size,1,none⟩))∧Fa l 9 (f 75= .int .i64 i)∧Fa l 10 (f 76= .pointer (some ⟨gr,0,none⟩))∧Fa l 11 (f 77= .pointer (some ⟨gr,0,none⟩))∧Fa l 12 (f 78= .pointer (some ⟨gr,0,none⟩))∧Fa l 13 (f 79= .pointer (some ⟨gk,0,none⟩))∧Fa l 14 (f 80= .pointer (some ⟨gk,0,none⟩))∧Fa l 15 (f 81= .pointer (some ⟨gk,10,none⟩))∧Fa l 16 (f 82= .pointer (some ⟨gk,13,none⟩))∧Fa l 17 (f 83= .slice (some ⟨g,0,none⟩) d.ins.length T.n2)∧Fa l 18 (f 84= .pointer (some ⟨w.heap.size,1,none⟩))∧Fa l 19 (f 85= .int .i64 i)∧Fa l 20 (f 86= .pointer (some ⟨g,i*2,none⟩))∧Fa l 21 (f 87= .agg #[.slice Ar (nth d.ins i).vals.length cr,.int .i64 (nth d.ins i).lost])∧Fa l 22 (∃A3 c3,f 88= .tuple #[.agg #[.slice A3 (restOf (nth d.ins i).vals).length c3,.int .i64 (nth d.ins i).lost],.int .i64 (takeV (nth d.ins i).vals)]∧ownsZ W 3 1 (.slice A3 (restOf (nth d.ins i).vals).length c3) (restOf (nth d.ins i).vals).length ((restOf (nth d.ins i).vals).flatMap fun n=>[Value.int .i64 n])∧(∀b,rowZ (.slice A3 (restOf (nth d.ins i).vals).length c3)=some b→Wa.heap.size≤b∧b < W.heap.size))∧Fa l 23 (∃A3 c3,f 65= .tuple #[.agg #[.slice A3 (restOf (nth d.ins i).vals).length c3,.int .i64 (nth d.ins i).lost],.int .i64 (takeV (nth d.ins i).vals)]∧ownsZ W 3 1 (.slice A3 (restOf (nth d.ins i).vals).length c3) (restOf (nth d.ins i).vals).length ((restOf (nth d.ins i).vals).flatMap fun n=>[Value.int .i64 n])∧(∀b,rowZ (.slice A3 (restOf (nth d.ins i).vals).length c3)=some b→Wa.heap.size≤b∧b < W.heap.size))∧Fa l 24 (∃A3 c3,f 89= .agg #[.slice A3 (restOf (nth d.ins i).vals).length c3,.int .i64 (nth d.ins i).lost]∧ownsZ W 3 1 (.slice A3 (restOf (nth d.ins i).vals).length c3) (restOf (nth d.ins i).vals).length ((restOf (nth d.ins i).vals).flatMap fun n=>[Value.int .i64 n])∧(∀b,rowZ (.slice A3 (restOf (nth d.ins i).vals).length c3)=some b→Wa.heap.size≤b∧b < W.heap.size))∧Fa l 25 (f 90= .int .i64 (takeV (nth d.ins i).vals))∧Fa l 26 (f 91= .pointer (some ⟨g,i*2,none⟩))∧Fa l 27 (∃Wb A3 c3,Below Wa.heap.size Wa Wb∧(ownsZ Wb 3 1 (.slice A3 (restOf (nth d.ins i).vals).length c3) (restOf (nth d.ins i).vals).length ((restOf (nth d.ins i).vals).flatMap fun n=>[Value.int .i64 n])∧(∀b,rowZ (.slice A3 (restOf (nth d.ins i).vals).length c3)=some b→Wa.heap.size≤b∧b < Wb.heap.size))∧W=(Wb.setCell ⟨g,i*2,none⟩ (.slice A3 (restOf (nth d.ins i).vals).length c3)).setCell ⟨g,i*2+1,none⟩ (.int .i64 (nth d.ins i).lost))) (by kernel_rfl) (by decide) (by kernel_rfl) (by kernel_rfl) (by intro s hs;simp at hs⊢;omega) ?_ ?_ ?_
 ·intro l hz hl
  exact ⟨⟨hz,.inr ⟨hl 27,(Below.refl _ _).drew⟩⟩,.no (hl 0),.no (hl 1),.no (hl 2),.no (hl 3),.no (hl 4),.no (hl 5),.no (hl 6),.no (hl 7),.no (hl 8),.no (hl 9),.no (hl 10),.no (hl 11),.no (hl 12),.no (hl 13),.no (hl 14),.no (hl 15),.no (hl 16),.no (hl 17),.no (hl 18),.no (hl 19),.no (hl 20),.no (hl 21),.no (hl 22),.no (hl 23),.no (hl 24),.no (hl 25),.no (hl 26),.no (hl 27)⟩
 ·simp only [List.take_succ_cons,List.take_zero]
  refine StepsL.c 1 [] (fun l f W hR hn hb K Q2 hK=>?_) ?_
  ·obtain ⟨hS,h0,h1,h2,h3,h4,h5,h6,h7,h8,h9,h10,h11,h12,h13,h14,h15,h16,h17,h18,h19,h20,h21,h22,h23,h24,h25,h26,h27⟩:=hR
   obtain ⟨hz,hO⟩:=hS
   obtain ⟨hL27,hS⟩:=hO.resolve_left fun h=>hn (h.2 0 (by decide) (by decide))
   replace hb:=zH hb
   refine ⟨?_⟩
   simp only [pfs] at hK⊢
   go_simp
   refine hK.out _ _ ⟨⟨by simpa using hz,.inr ⟨fun h=>hL27 h.b,hS⟩⟩,⟨fun _=>rfl⟩,h1.k,h2.k,h3.k,h4.k,h5.k,h6.k,h7.k,h8.k,h9.k,h10.k,h11.k,h12.k,h13.k,h14.k,h15.k,h16.k,h17.k,h18.k,h19.k,h20.k,h21.k,h22.k,h23.k,h24.k,h25.k,h26.k,h27.k⟩
  refine StepsL.c 2 [0] (fun l f W hR hn hb K Q2 hK=>?_) ?_
  ·obtain ⟨hS,h0,h1,h2,h3,h4,h5,h6,h7,h8,h9,h10,h11,h12,h13,h14,h15,h16,h17,h18,h19,h20,h21,h22,h23,h24,h25,h26,h27⟩:=hR
   have q0:=h0.out (hb 0 (by simp))
   obtain ⟨hz,hO⟩:=hS
   obtain ⟨hL27,hS⟩:=hO.resolve_left fun h=>hn (h.2 1 (by decide) (by decide))
   replace hb:=zH hb
   refine ⟨?_⟩
   simp only [pfs] at hK⊢
   (try simp only [q0] at hK)
   go_simp
   refine hK.out _ _ ⟨⟨by simpa using hz,.inr ⟨fun h=>hL27 h.b,hS⟩⟩,h0.k,⟨fun _=>rfl⟩,h2.k,h3.k,h4.k,h5.k,h6.k,h7.k,h8.k,h9.k,h10.k,h11.k,h12.k,h13.k,h14.k,h15.k,h16.k,h17.k,h18.k,h19.k,h20.k,h21.k,h22.k,h23.k,h24.k,h25.k,h26.k,h27.k⟩
  refine StepsL.c 3 [1] (fun l f W hR hn hb K Q2 hK=>?_) ?_
  ·obtain ⟨hS,h0,h1,h2,h3,h4,h5,h6,h7,h8,h9,h10,h11,h12,h13,h14,h15,h16,h17,h18,h19,h20,h21,h22,h23,h24,h25,h26,h27⟩:=hR
   have q1:=h1.out (hb 1 (by simp))
   obtain ⟨hz,hO⟩:=hS
   obtain ⟨hL27,hS⟩:=hO.resolve_left fun h=>hn (h.2 2 (by decide) (by decide))
   replace hb:=zH hb
   refine ⟨?_⟩
   simp only [pfs] at hK⊢
   (try simp only [q1] at hK)
   go_simp
   refine hK.out _ _ ⟨⟨by simpa using hz,.inr ⟨fun h=>hL27 h.b,hS⟩⟩,h0.k,h1.k,⟨fun _=>rfl⟩,h3.k,h4.k,h5.k,h6.k,h7.k,h8.k,h9.k,h10.k,h11.k,h12.k,h13.k,h14.k,h15.k,h16.k,h17.k,h18.k,h19.k,h20.k,h21.k,h22.k,h23.k,h24.k,h25.k,h26.k,h27.k⟩
  refine StepsL.c 4 [2] (fun l f W hR hn hb K Q2 hK=>?_) ?_
  ·obtain ⟨hS,h0,h1,h2,h3,h4,h5,h6,h7,h8,h9,h10,h11,h12,h13,h14,h15,h16,h17,h18,h19,h20,h21,h22,h23,h24,h25,h26,h27⟩:=hR
   have q2:=h2.out (hb 2 (by simp))
   obtain ⟨hz,hO⟩:=hS
   obtain ⟨hL27,hS⟩:=hO.resolve_left fun h=>hn (h.2 3 (by decide) (by decide))
   replace hb:=zH hb
   refine ⟨?_⟩
   simp only [pfs] at hK⊢
   (try simp only [q2] at hK)
   obtain ⟨cX,fX,zX⟩:=blk (KR.out W hS)
   go_simp
   refine hK.out _ _ ⟨⟨by simpa using hz,.inr ⟨fun h=>hL27 h.b,hS⟩⟩,h0.k,h1.k,h2.k,⟨fun _=>rfl⟩,h4.k,h5.k,h6.k,h7.k,h8.k,h9.k,h10.k,h11.k,h12.k,h13.k,h14.k,h15.k,h16.k,h17.k,h18.k,h19.k,h20.k,h21.k,h22.k,h23.k,h24.k,h25.k,h26.k,h27.k⟩
  refine StepsL.c 5 [3] (fun l f W hR hn hb K Q2 hK=>?_) ?_
  ·obtain ⟨hS,h0,h1,h2,h3,h4,h5,h6,h7,h8,h9,h10,h11,h12,h13,h14,h15,h16,h17,h18,h19,h20,h21,h22,h23,h24,h25,h26,h27⟩:=hR
   have q3:=h3.out (hb 3 (by simp))
   obtain ⟨hz,hO⟩:=hS
   obtain ⟨hL27,hS⟩:=hO.resolve_left fun h=>hn (h.2 4 (by decide) (by decide))
   replace hb:=zH hb
   refine ⟨?_⟩
   simp only [pfs] at hK⊢
   (try simp only [q3] at hK)
   go_simp
   refine hK.out _ _ ⟨⟨by simpa using hz,.inr ⟨fun h=>hL27 h.b,hS⟩⟩,h0.k,h1.k,h2.k,h3.k,⟨fun _=>rfl⟩,h5.k,h6.k,h7.k,h8.k,h9.k,h10.k,h11.k,h12.k,h13.k,h14.k,h15.k,h16.k,h17.k,h18.k,h19.k,h20.k,h21.k,h22.k,h23.k,h24.k,h25.k,h26.k,h27.k⟩
  refine StepsL.c 6 [4] (fun l f W hR hn hb K Q2 hK=>?_) ?_
  ·obtain ⟨hS,h0,h1,h2,h3,h4,h5,h6,h7,h8,h9,h10,h11,h12,h13,h14,h15,h16,h17,h18,h19,h20,h21,h22,h23,h24,h25,h26,h27⟩:=hR
   have q4:=h4.out (hb 4 (by simp))
   obtain ⟨hz,hO⟩:=hS
   obtain ⟨hL27,hS⟩:=hO.resolve_left fun h=>hn (h.2 5 (by decide) (by decide))
   replace hb:=zH hb
   refine ⟨?_⟩
   simp only [pfs] at hK⊢
   (try simp only [q4] at hK)
   go_simp
   refine hK.out _ _ ⟨⟨by simpa using hz,.inr ⟨fun h=>hL27 h.b,hS⟩⟩,h0.k,h1.k,h2.k,h3.k,h4.k,⟨fun _=>rfl⟩,h6.k,h7.k,h8.k,h9.k,h10.k,h11.k,h12.k,h13.k,h14.k,h15.k,h16.k,h17.k,h18.k,h19.k,h20.k,h21.k,h22.k,h23.k,h24.k,h25.k,h26.k,h27.k⟩
  refine StepsL.c 7 [5] (fun l f W hR hn hb K Q2 hK=>?_) ?_
  ·obtain ⟨hS,h0,h1,h2,h3,h4,h5,h6,h7,h8,h9,h10,h11,h12,h13,h14,h15,h16,h17,h18,h19,h20,h21,h22,h23,h24,h25,h26,h27⟩:=hR
   have q5:=h5.out (hb 5 (by simp))
   obtain ⟨hz,hO⟩:=hS
   obtain ⟨hL27,hS⟩:=hO.resolve_left fun h=>hn (h.2 6 (by decide) (by decide))
   replace hb:=zH hb
   refine ⟨?_⟩
   simp only [pfs] at hK⊢
   (try simp only [q5] at hK)
   go_simp
   refine hK.out _ _ ⟨⟨by simpa using hz,.inr ⟨fun h=>hL27 h.b,hS⟩⟩,h0.k,h1.k,h2.k,h3.k,h4.k,h5.k,⟨fun _=>rfl⟩,h7.k,h8.k,h9.k,h10.k,h11.k,h12.k,h13.k,h14.k,h15.k,h16.k,h17.k,h18.k,h19.k,h20.k,h21.k,h22.k,h23.k,h24.k,h25.k,h26.k,h27.k⟩
  refine StepsL.c 8 [6] (fun l f W hR hn hb K Q2 hK=>?_) ?_
  ·obtain ⟨hS,h0,h1,h2,h3,h4,h5,h6,h7,h8,h9,h10,h11,h12,h13,h14,h15,h16,h17,h18,h19,h20,h21,h22,h23,h24,h25,h26,h27⟩:=hR
   have q6:=h6.out (hb 6 (by simp))
   obtain ⟨hz,hO⟩:=hS
   obtain ⟨hL27,hS⟩:=hO.resolve_left fun h=>hn (h.2 7 (by decide) (by decide))
   replace hb:=zH hb
   refine ⟨?_⟩
   simp only [pfs] at hK⊢
   (try simp only [q6] at hK)
   obtain ⟨cX,fX,zX⟩:=blk (KK.out W hS)
   go_simp
   refine hK.out _ _ ⟨⟨by simpa using hz,.inr ⟨fun h=>hL27 h.b,hS⟩⟩,h0.k,h1.k,h2.k,h3.k,h4.k,h5.k,h6.k,⟨fun _=>rfl⟩,h8.k,h9.k,h10.k,h11.k,h12.k,h13.k,h14.k,h15.k,h16.k,h17.k,h18.k,h19.k,h20.k,h21.k,h22.k,h23.k,h24.k,h25.k,h26.k,h27.k⟩
  refine StepsL.c 9 [] (fun l f W hR hn hb K Q2 hK=>?_) ?_
  ·obtain ⟨hS,h0,h1,h2,h3,h4,h5,h6,h7,h8,h9,h10,h11,h12,h13,h14,h15,h16,h17,h18,h19,h20,h21,h22,h23,h24,h25,h26,h27⟩:=hR
   obtain ⟨hz,hO⟩:=hS
   obtain ⟨hL27,hS⟩:=hO.resolve_left fun h=>hn (h.2 8 (by decide) (by decide))
   replace hb:=zH hb
   refine ⟨?_⟩
   simp only [pfs] at hK⊢
   go_simp
   refine hK.out _ _ ⟨⟨by simpa using hz,.inr ⟨fun h=>hL27 h.b,hS⟩⟩,h0.k,h1.k,h2.k,h3.k,h4.k,h5.k,h6.k,h7.k,⟨fun _=>rfl⟩,h9.k,h10.k,h11.k,h12.k,h13.k,h14.k,h15.k,h16.k,h17.k,h18.k,h19.k,h20.k,h21.k,h22.k,h23.k,h24.k,h25.k,h26.k,h27.k⟩
  refine StepsL.c 10 [8] (fun l f W hR hn hb K Q2 hK=>?_) ?_
  ·obtain ⟨hS,h0,h1,h2,h3,h4,h5,h6,h7,h8,h9,h10,h11,h12,h13,h14,h15,h16,h17,h18,h19,h20,h21,h22,h23,h24,h25,h26,h27⟩:=hR
   have q8:=h8.out (hb 8 (by simp))
   obtain ⟨hz,hO⟩:=hS
   obtain ⟨hL27,hS⟩:=hO.resolve_left fun h=>hn (h.2 9 (by decide) (by decide))
   replace hb:=zH hb
   refine ⟨?_⟩
   simp only [pfs] at hK⊢
   (try simp only [q8] at hK)
   obtain ⟨cX,fX,zX⟩:=blk (KX.out W hS)
   go_simp
   refine hK.out _ _ ⟨⟨by simpa using hz,.inr ⟨fun h=>hL27 h.b,hS⟩⟩,h0.k,h1.k,h2.k,h3.k,h4.k,h5.k,h6.k,h7.k,h8.k,⟨fun _=>rfl⟩,h10.k,h11.k,h12.k,h13.k,h14.k,h15.k,h16.k,h17.k,h18.k,h19.k,h20.k,h21.k,h22.k,h23.k,h24.k,h25.k,h26.k,h27.k⟩
  refine StepsL.c 11 [] (fun l f W hR hn hb K Q2 hK=>?_) ?_
  ·obtain ⟨hS,h0,h1,h2,h3,h4,h5,h6,h7,h8,h9,h10,h11,h12,h13,h14,h15,h16,h17,h18,h19,h20,h21,h22,h23,h24,h25,h26,h27⟩:=hR
   obtain ⟨hz,hO⟩:=hS
   obtain ⟨hL27,hS⟩:=hO.resolve_left fun h=>hn (h.2 10 (by decide) (by decide))
   replace hb:=zH hb
   refine ⟨?_⟩
   simp only [pfs] at hK⊢
   go_simp
   refine hK.out _ _ ⟨⟨by simpa using hz,.inr ⟨fun h=>hL27 h.b,hS⟩⟩,h0.k,h1.k,h2.k,h3.k,h4.k,h5.k,h6.k,h7.k,h8.k,h9.k,⟨fun _=>rfl⟩,h11.k,h12.k,h13.k,h14.k,h15.k,h16.k,h17.k,h18.k,h19.k,h20.k,h21.k,h22.k,h23.k,h24.k,h25.k,h26.k,h27.k⟩
  refine StepsL.c 12 [10] (fun l f W hR hn hb K Q2 hK=>?_) ?_
  ·obtain ⟨hS,h0,h1,h2,h3,h4,h5,h6,h7,h8,h9,h10,h11,h12,h13,h14,h15,h16,h17,h18,h19,h20,h21,h22,h23,h24,h25,h26,h27⟩:=hR
   have q10:=h10.out (hb 10 (by simp))
   obtain ⟨hz,hO⟩:=hS
   obtain ⟨hL27,hS⟩:=hO.resolve_left fun h=>hn (h.2 11 (by decide) (by decide))
   replace hb:=zH hb
   refine ⟨?_⟩
   simp only [pfs] at hK⊢
   (try simp only [q10] at hK)
   go_simp
   refine hK.out _ _ ⟨⟨by simpa using hz,.inr ⟨fun h=>hL27 h.b,hS⟩⟩,h0.k,h1.k,h2.k,h3.k,h4.k,h5.k,h6.k,h7.k,h8.k,h9.k,h10.k,⟨fun _=>rfl⟩,h12.k,h13.k,h14.k,h15.k,h16.k,h17.k,h18.k,h19.k,h20.k,h21.k,h22.k,h23.k,h24.k,h25.k,h26.k,h27.k⟩
  refine StepsL.c 13 [11] (fun l f W hR hn hb K Q2 hK=>?_) ?_
  ·obtain ⟨hS,h0,h1,h2,h3,h4,h5,h6,h7,h8,h9,h10,h11,h12,h13,h14,h15,h16,h17,h18,h19,h20,h21,h22,h23,h24,h25,h26,h27⟩:=hR
   have q11:=h11.out (hb 11 (by simp))
   obtain ⟨hz,hO⟩:=hS
   obtain ⟨hL27,hS⟩:=hO.resolve_left fun h=>hn (h.2 12 (by decide) (by decide))
   replace hb:=zH hb
   refine ⟨?_⟩
   simp only [pfs] at hK⊢
   (try simp only [q11] at hK)
   go_simp
   refine hK.out _ _ ⟨⟨by simpa using hz,.inr ⟨fun h=>hL27 h.b,hS⟩⟩,h0.k,h1.k,h2.k,h3.k,h4.k,h5.k,h6.k,h7.k,h8.k,h9.k,h10.k,h11.k,⟨fun _=>rfl⟩,h13.k,h14.k,h15.k,h16.k,h17.k,h18.k,h19.k,h20.k,h21.k,h22.k,h23.k,h24.k,h25.k,h26.k,h27.k⟩
  refine StepsL.c 14 [12] (fun l f W hR hn hb K Q2 hK=>?_) ?_
  ·obtain ⟨hS,h0,h1,h2,h3,h4,h5,h6,h7,h8,h9,h10,h11,h12,h13,h14,h15,h16,h17,h18,h19,h20,h21,h22,h23,h24,h25,h26,h27⟩:=hR
   have q12:=h12.out (hb 12 (by simp))
   obtain ⟨hz,hO⟩:=hS
   obtain ⟨hL27,hS⟩:=hO.resolve_left fun h=>hn (h.2 13 (by decide) (by decide))
   replace hb:=zH hb
   refine ⟨?_⟩
   simp only [pfs] at hK⊢
   (try simp only [q12] at hK)
   obtain ⟨cX,fX,zX⟩:=blk (KR.out W hS)
   go_simp
   refine hK.out _ _ ⟨⟨by simpa using hz,.inr ⟨fun h=>hL27 h.b,hS⟩⟩,h0.k,h1.k,h2.k,h3.k,h4.k,h5.k,h6.k,h7.k,h8.k,h9.k,h10.k,h11.k,h12.k,⟨fun _=>rfl⟩,h14.k,h15.k,h16.k,h17.k,h18.k,h19.k,h20.k,h21.k,h22.k,h23.k,h24.k,h25.k,h26.k,h27.k⟩
  refine StepsL.c 15 [13] (fun l f W hR hn hb K Q2 hK=>?_) ?_
  ·obtain ⟨hS,h0,h1,h2,h3,h4,h5,h6,h7,h8,h9,h10,h11,h12,h13,h14,h15,h16,h17,h18,h19,h20,h21,h22,h23,h24,h25,h26,h27⟩:=hR
   have q13:=h13.out (hb 13 (by simp))
   obtain ⟨hz,hO⟩:=hS
   obtain ⟨hL27,hS⟩:=hO.resolve_left fun h=>hn (h.2 14 (by decide) (by decide))
   replace hb:=zH hb
   refine ⟨?_⟩
   simp only [pfs] at hK⊢
   (try simp only [q13] at hK)
   go_simp
   refine hK.out _ _ ⟨⟨by simpa using hz,.inr ⟨fun h=>hL27 h.b,hS⟩⟩,h0.k,h1.k,h2.k,h3.k,h4.k,h5.k,h6.k,h7.k,h8.k,h9.k,h10.k,h11.k,h12.k,h13.k,⟨fun _=>rfl⟩,h15.k,h16.k,h17.k,h18.k,h19.k,h20.k,h21.k,h22.k,h23.k,h24.k,h25.k,h26.k,h27.k⟩
  refine StepsL.c 16 [14] (fun l f W hR hn hb K Q2 hK=>?_) ?_
  ·obtain ⟨hS,h0,h1,h2,h3,h4,h5,h6,h7,h8,h9,h10,h11,h12,h13,h14,h15,h16,h17,h18,h19,h20,h21,h22,h23,h24,h25,h26,h27⟩:=hR
   have q14:=h14.out (hb 14 (by simp))
   obtain ⟨hz,hO⟩:=hS
   obtain ⟨hL27,hS⟩:=hO.resolve_left fun h=>hn (h.2 15 (by decide) (by decide))
   replace hb:=zH hb
   refine ⟨?_⟩
   simp only [pfs] at hK⊢
   (try simp only [q14] at hK)
   go_simp
   refine hK.out _ _ ⟨⟨by simpa using hz,.inr ⟨fun h=>hL27 h.b,hS⟩⟩,h0.k,h1.k,h2.k,h3.k,h4.k,h5.k,h6.k,h7.k,h8.k,h9.k,h10.k,h11.k,h12.k,h13.k,h14.k,⟨fun _=>rfl⟩,h16.k,h17.k,h18.k,h19.k,h20.k,h21.k,h22.k,h23.k,h24.k,h25.k,h26.k,h27.k⟩
  refine StepsL.c 17 [15] (fun l f W hR hn hb K Q2 hK=>?_) ?_
  ·obtain ⟨hS,h0,h1,h2,h3,h4,h5,h6,h7,h8,h9,h10,h11,h12,h13,h14,h15,h16,h17,h18,h19,h20,h21,h22,h23,h24,h25,h26,h27⟩:=hR
   have q15:=h15.out (hb 15 (by simp))
   obtain ⟨hz,hO⟩:=hS
   obtain ⟨hL27,hS⟩:=hO.resolve_left fun h=>hn (h.2 16 (by decide) (by decide))
   replace hb:=zH hb
   refine ⟨?_⟩
   simp only [pfs] at hK⊢
   (try simp only [q15] at hK)
   go_simp
   refine hK.out _ _ ⟨⟨by simpa using hz,.inr ⟨fun h=>hL27 h.b,hS⟩⟩,h0.k,h1.k,h2.k,h3.k,h4.k,h5.k,h6.k,h7.k,h8.k,h9.k,h10.k,h11.k,h12.k,h13.k,h14.k,h15.k,⟨fun _=>rfl⟩,h17.k,h18.k,h19.k,h20.k,h21.k,h22.k,h23.k,h24.k,h25.k,h26.k,h27.k⟩
  refine StepsL.c 18 [16] (fun l f W hR hn hb K Q2 hK=>?_) ?_
  ·obtain ⟨hS,h0,h1,h2,h3,h4,h5,h6,h7,h8,h9,h10,h11,h12,h13,h14,h15,h16,h17,h18,h19,h20,h21,h22,h23,h24,h25,h26,h27⟩:=hR
   have q16:=h16.out (hb 16 (by simp))
   obtain ⟨hz,hO⟩:=hS
   obtain ⟨hL27,hS⟩:=hO.resolve_left fun h=>hn (h.2 17 (by decide) (by decide))
   replace hb:=zH hb
   refine ⟨?_⟩
   simp only [pfs] at hK⊢
   (try simp only [q16] at hK)
   obtain ⟨cX,fX,zX⟩:=blk (KK.out W hS)
   go_simp
   refine hK.out _ _ ⟨⟨by simpa using hz,.inr ⟨fun h=>hL27 h.b,hS⟩⟩,h0.k,h1.k,h2.k,h3.k,h4.k,h5.k,h6.k,h7.k,h8.k,h9.k,h10.k,h11.k,h12.k,h13.k,h14.k,h15.k,h16.k,⟨fun _=>rfl⟩,h18.k,h19.k,h20.k,h21.k,h22.k,h23.k,h24.k,h25.k,h26.k,h27.k⟩
  refine StepsL.c 19 [] (fun l f W hR hn hb K Q2 hK=>?_) ?_
  ·obtain ⟨hS,h0,h1,h2,h3,h4,h5,h6,h7,h8,h9,h10,h11,h12,h13,h14,h15,h16,h17,h18,h19,h20,h21,h22,h23,h24,h25,h26,h27⟩:=hR
   obtain ⟨hz,hO⟩:=hS
   obtain ⟨hL27,hS⟩:=hO.resolve_left fun h=>hn (h.2 18 (by decide) (by decide))
   replace hb:=zH hb
   refine ⟨?_⟩
   simp only [pfs] at hK⊢
   go_simp
   refine hK.out _ _ ⟨⟨by simpa using hz,.inr ⟨fun h=>hL27 h.b,hS⟩⟩,h0.k,h1.k,h2.k,h3.k,h4.k,h5.k,h6.k,h7.k,h8.k,h9.k,h10.k,h11.k,h12.k,h13.k,h14.k,h15.k,h16.k,h17.k,⟨fun _=>rfl⟩,h19.k,h20.k,h21.k,h22.k,h23.k,h24.k,h25.k,h26.k,h27.k⟩
  refine StepsL.c 20 [18] (fun l f W hR hn hb K Q2 hK=>?_) ?_
  ·obtain ⟨hS,h0,h1,h2,h3,h4,h5,h6,h7,h8,h9,h10,h11,h12,h13,h14,h15,h16,h17,h18,h19,h20,h21,h22,h23,h24,h25,h26,h27⟩:=hR
   have q18:=h18.out (hb 18 (by simp))
   obtain ⟨hz,hO⟩:=hS
   obtain ⟨hL27,hS⟩:=hO.resolve_left fun h=>hn (h.2 19 (by decide) (by decide))
   replace hb:=zH hb
   refine ⟨?_⟩
   simp only [pfs] at hK⊢
   (try simp only [q18] at hK)
   obtain ⟨cX,fX,zX⟩:=blk (KX.out W hS)
   go_simp
   refine hK.out _ _ ⟨⟨by simpa using hz,.inr ⟨fun h=>hL27 h.b,hS⟩⟩,h0.k,h1.k,h2.k,h3.k,h4.k,h5.k,h6.k,h7.k,h8.k,h9.k,h10.k,h11.k,h12.k,h13.k,h14.k,h15.k,h16.k,h17.k,h18.k,⟨fun _=>rfl⟩,h20.k,h21.k,h22.k,h23.k,h24.k,h25.k,h26.k,h27.k⟩
  refine StepsL.c 21 [17,19] (fun l f W hR hn hb K Q2 hK=>?_) ?_
  ·obtain ⟨hS,h0,h1,h2,h3,h4,h5,h6,h7,h8,h9,h10,h11,h12,h13,h14,h15,h16,h17,h18,h19,h20,h21,h22,h23,h24,h25,h26,h27⟩:=hR
   have q17:=h17.out (hb 17 (by simp))
   have q19:=h19.out (hb 19 (by simp))
   obtain ⟨hz,hO⟩:=hS
   obtain ⟨hL27,hS⟩:=hO.resolve_left fun h=>hn (h.2 20 (by decide) (by decide))
   replace hb:=zH hb
   refine ⟨?_⟩
   simp only [pfs] at hK⊢
   (try simp only [q17,q19] at hK)
   go_simp
   refine hK.out _ _ ⟨⟨by simpa using hz,.inr ⟨fun h=>hL27 h.b,hS⟩⟩,h0.k,h1.k,h2.k,h3.k,h4.k,h5.k,h6.k,h7.k,h8.k,h9.k,h10.k,h11.k,h12.k,h13.k,h14.k,h15.k,h16.k,h17.k,h18.k,h19.k,⟨fun _=>rfl⟩,h21.k,h22.k,h23.k,h24.k,h25.k,h26.k,h27.k⟩
  refine StepsL.c 22 [20] (fun l f W hR hn hb K Q2 hK=>?_) ?_
  ·obtain ⟨hS,h0,h1,h2,h3,h4,h5,h6,h7,h8,h9,h10,h11,h12,h13,h14,h15,h16,h17,h18,h19,h20,h21,h22,h23,h24,h25,h26,h27⟩:=hR
   have q20:=h20.out (hb 20 (by simp))
   obtain ⟨hz,hO⟩:=hS
   obtain ⟨hL27,hS⟩:=hO.resolve_left fun h=>hn (h.2 21 (by decide) (by decide))
   replace hb:=zH hb
   refine ⟨?_⟩
   simp only [pfs] at hK⊢
   (try simp only [q20] at hK)
   obtain ⟨kr0,kr1⟩:=KQ.out W hS
   go_simp
   refine hK.out _ _ ⟨⟨by simpa using hz,.inr ⟨fun h=>hL27 h.b,hS⟩⟩,h0.k,h1.k,h2.k,h3.k,h4.k,h5.k,h6.k,h7.k,h8.k,h9.k,h10.k,h11.k,h12.k,h13.k,h14.k,h15.k,h16.k,h17.k,h18.k,h19.k,h20.k,⟨fun _=>rfl⟩,h22.k,h23.k,h24.k,h25.k,h26.k,h27.k⟩
  refine StepsL.c 23 [21] (fun l f W hR hn hb K Q2 hK=>?_) ?_
  ·obtain ⟨hS,h0,h1,h2,h3,h4,h5,h6,h7,h8,h9,h10,h11,h12,h13,h14,h15,h16,h17,h18,h19,h20,h21,h22,h23,h24,h25,h26,h27⟩:=hR
   have q21:=h21.out (hb 21 (by simp))
   obtain ⟨hz,hO⟩:=hS
   obtain ⟨hL27,hS⟩:=hO.resolve_left fun h=>hn (h.2 22 (by decide) (by decide))
   replace hb:=zH hb
   refine ⟨?_⟩
   simp only [pfs] at hK⊢
   (try simp only [q21] at hK)
   have HC:=HM.out W hS
   go_simp
   go_at_call 94
   refine HC.mono ?_
   clear HC
   rintro e w3 ⟨A3,c3,rfl,hown3,hb3⟩
   try dsimp only
   try simp only [Act.put,List.setIfInBounds_toArray,List.set_cons_zero,List.set_cons_succ]
   refine hK.out _ _ ⟨⟨by simpa using hz,.inr ⟨fun h=>hL27 h.b,hS.trans (hb3.mono hS.size)⟩⟩,h0.k,h1.k,h2.k,h3.k,h4.k,h5.k,h6.k,h7.k,h8.k,h9.k,h10.k,h11.k,h12.k,h13.k,h14.k,h15.k,h16.k,h17.k,h18.k,h19.k,h20.k,h21.k,⟨fun _=>⟨A3,c3,rfl,.of hown3,fun b hb=>⟨Nat.le_trans hS.size (own_lt hown3 b (rowZ_own hb)).1,(own_lt hown3 b (rowZ_own hb)).2⟩⟩⟩,⟨fun hl=>let ⟨A3,c3,e,o,r⟩:=(h23.out hl.b);⟨A3,c3,e,ownZ_keep o (fun b hb=>hb3.block b (r b hb).2),fun b hb=>by have:=r b hb;have:=hb3.size;omega⟩⟩,⟨fun hl=>let ⟨A3,c3,e,o,r⟩:=(h24.out hl.b);⟨A3,c3,e,ownZ_keep o (fun b hb=>hb3.block b (r b hb).2),fun b hb=>by have:=r b hb;have:=hb3.size;omega⟩⟩,h25.k,h26.k,⟨fun hl=>absurd hl.b hL27⟩⟩
  refine StepsL.c 24 [22] (fun l f W hR hn hb K Q2 hK=>?_) ?_
  ·obtain ⟨hS,h0,h1,h2,h3,h4,h5,h6,h7,h8,h9,h10,h11,h12,h13,h14,h15,h16,h17,h18,h19,h20,h21,h22,h23,h24,h25,h26,h27⟩:=hR
   have q22:=h22.out (hb 22 (by simp))
   obtain ⟨hz,hO⟩:=hS
   obtain ⟨hL27,hS⟩:=hO.resolve_left fun h=>hn (h.2 23 (by decide) (by decide))
   obtain ⟨A3,c3,e22,o22,r22⟩:=q22
   replace hb:=zH hb
   refine ⟨?_⟩
   simp only [pfs] at hK⊢
   (try simp only [e22] at hK)
   go_simp
   refine hK.out _ _ ⟨⟨by simpa using hz,.inr ⟨fun h=>hL27 h.b,hS⟩⟩,h0.k,h1.k,h2.k,h3.k,h4.k,h5.k,h6.k,h7.k,h8.k,h9.k,h10.k,h11.k,h12.k,h13.k,h14.k,h15.k,h16.k,h17.k,h18.k,h19.k,h20.k,h21.k,h22.k,⟨fun _=>⟨A3,c3,rfl,o22,r22⟩⟩,h24.k,h25.k,h26.k,h27.k⟩
  refine StepsL.c 25 [23] (fun l f W hR hn hb K Q2 hK=>?_) ?_
  ·obtain ⟨hS,h0,h1,h2,h3,h4,h5,h6,h7,h8,h9,h10,h11,h12,h13,h14,h15,h16,h17,h18,h19,h20,h21,h22,h23,h24,h25,h26,h27⟩:=hR
   have q23:=h23.out (hb 23 (by simp))
   obtain ⟨hz,hO⟩:=hS
   obtain ⟨hL27,hS⟩:=hO.resolve_left fun h=>hn (h.2 24 (by decide) (by decide))
   obtain ⟨A3,c3,e23,o23,r23⟩:=q23
   replace hb:=zH hb
   refine ⟨?_⟩
   simp only [pfs] at hK⊢
   (try simp only [e23] at hK)
   go_simp
   refine hK.out _ _ ⟨⟨by simpa using hz,.inr ⟨fun h=>hL27 h.b,hS⟩⟩,h0.k,h1.k,h2.k,h3.k,h4.k,h5.k,h6.k,h7.k,h8.k,h9.k,h10.k,h11.k,h12.k,h13.k,h14.k,h15.k,h16.k,h17.k,h18.k,h19.k,h20.k,h21.k,h22.k,h23.k,⟨fun _=>⟨A3,c3,rfl,o23,r23⟩⟩,h25.k,h26.k,h27.k⟩
  refine StepsL.c 26 [23] (fun l f W hR hn hb K Q2 hK=>?_) ?_
  ·obtain ⟨hS,h0,h1,h2,h3,h4,h5,h6,h7,h8,h9,h10,h11,h12,h13,h14,h15,h16,h17,h18,h19,h20,h21,h22,h23,h24,h25,h26,h27⟩:=hR
   have q23:=h23.out (hb 23 (by simp))
   obtain ⟨hz,hO⟩:=hS
   obtain ⟨A3,c3,e23,-,-⟩:=q23
   replace hb:=zH hb
   refine ⟨?_⟩
   simp only [pfs] at hK⊢
   (try simp only [e23] at hK)
   go_simp
   refine hK.out _ _ ⟨⟨by simpa using hz,hO.imp (fun h=>⟨h.1.fwd,fun j hj hj2=>(h.2 j hj hj2).fwd⟩) (fun h=>⟨fun h2=>h.1 h2.b,h.2⟩)⟩,h0.k,h1.k,h2.k,h3.k,h4.k,h5.k,h6.k,h7.k,h8.k,h9.k,h10.k,h11.k,h12.k,h13.k,h14.k,h15.k,h16.k,h17.k,h18.k,h19.k,h20.k,h21.k,h22.k,h23.k,h24.k,⟨fun _=>rfl⟩,h26.k,h27.k⟩
  refine StepsL.c 27 [7,9,0,1,2,3,4,5,6,7,8,9,10,11,12,13,14,15,16,17,18,19,20,21,22,23,24] (fun l f W hR hn hb K Q2 hK=>?_) ?_
  ·obtain ⟨hS,h0,h1,h2,h3,h4,h5,h6,h7,h8,h9,h10,h11,h12,h13,h14,h15,h16,h17,h18,h19,h20,h21,h22,h23,h24,h25,h26,h27⟩:=hR
   have q0:=h0.out (hb 0 (by simp))
   have q1:=h1.out (hb 1 (by simp))
   have q2:=h2.out (hb 2 (by simp))
   have q3:=h3.out (hb 3 (by simp))
   have q4:=h4.out (hb 4 (by simp))
   have q5:=h5.out (hb 5 (by simp))
   have q6:=h6.out (hb 6 (by simp))
   have q7:=h7.out (hb 7 (by simp))
   have q8:=h8.out (hb 8 (by simp))
   have q9:=h9.out (hb 9 (by simp))
   have q10:=h10.out (hb 10 (by simp))
   have q11:=h11.out (hb 11 (by simp))
   have q12:=h12.out (hb 12 (by simp))
   have q13:=h13.out (hb 13 (by simp))
   have q14:=h14.out (hb 14 (by simp))
   have q15:=h15.out (hb 15 (by simp))
   have q16:=h16.out (hb 16 (by simp))
   have q17:=h17.out (hb 17 (by simp))
   have q18:=h18.out (hb 18 (by simp))
   have q19:=h19.out (hb 19 (by simp))
   have q20:=h20.out (hb 20 (by simp))
   have q21:=h21.out (hb 21 (by simp))
   have q22:=h22.out (hb 22 (by simp))
   have q23:=h23.out (hb 23 (by simp))
   have q24:=h24.out (hb 24 (by simp))
   obtain ⟨hz,hO⟩:=hS
   obtain ⟨hL27,hS⟩:=hO.resolve_left fun h=>hn (h.2 26 (by decide) (by decide))
   replace hb:=zH hb
   refine ⟨?_⟩
   simp only [pfs] at hK⊢
   (try simp only [q0,q1,q2,q3,q4,q5,q6,q7,q8,q9,q10,q11,q12,q13,q14,q15,q16,q17,q18,q19,q20,q21] at hK)
   go_simp
   refine hK.out _ _ ⟨⟨by simpa using hz,.inr ⟨fun h=>hL27 h.b,hS⟩⟩,h0.k,h1.k,h2.k,h3.k,h4.k,h5.k,h6.k,h7.k,h8.k,h9.k,h10.k,h11.k,h12.k,h13.k,h14.k,h15.k,h16.k,h17.k,h18.k,h19.k,h20.k,h21.k,h22.k,h23.k,h24.k,h25.k,⟨fun _=>rfl⟩,h27.k⟩
  refine StepsL.c 28 [26,24,22,0,1,2,3,4,5,6,7,8,9,10,11,12,13,14,15,16,17,18,19,20,21,22,23,24] (fun l f W hR hn hb K Q2 hK=>?_) ?_
  ·obtain ⟨hS,h0,h1,h2,h3,h4,h5,h6,h7,h8,h9,h10,h11,h12,h13,h14,h15,h16,h17,h18,h19,h20,h21,h22,h23,h24,h25,h26,h27⟩:=hR
   have q0:=h0.out (hb 0 (by simp))
   have q1:=h1.out (hb 1 (by simp))
   have q2:=h2.out (hb 2 (by simp))
   have q3:=h3.out (hb 3 (by simp))
   have q4:=h4.out (hb 4 (by simp))
   have q5:=h5.out (hb 5 (by simp))
   have q6:=h6.out (hb 6 (by simp))
   have q7:=h7.out (hb 7 (by simp))
   have q8:=h8.out (hb 8 (by simp))
   have q9:=h9.out (hb 9 (by simp))
   have q10:=h10.out (hb 10 (by simp))
   have q11:=h11.out (hb 11 (by simp))
   have q12:=h12.out (hb 12 (by simp))
   have q13:=h13.out (hb 13 (by simp))
   have q14:=h14.out (hb 14 (by simp))
   have q15:=h15.out (hb 15 (by simp))
   have q16:=h16.out (hb 16 (by simp))
   have q17:=h17.out (hb 17 (by simp))
   have q18:=h18.out (hb 18 (by simp))
   have q19:=h19.out (hb 19 (by simp))
   have q20:=h20.out (hb 20 (by simp))
   have q21:=h21.out (hb 21 (by simp))
   have q22:=h22.out (hb 22 (by simp))
   have q23:=h23.out (hb 23 (by simp))
   have q24:=h24.out (hb 24 (by simp))
   have q26:=h26.out (hb 26 (by simp))
   obtain ⟨hz,hO⟩:=hS
   obtain ⟨hL27,hS⟩:=hO.resolve_left fun h=>hn h.1
   obtain ⟨A3,c3,e24,hown3,hrow3⟩:=q24
   clear q22 q23
   replace hb:=zH hb
   refine ⟨?_⟩
   simp only [pfs] at hK⊢
   (try simp only [q0,q1,q2,q3,q4,q5,q6,q7,q8,q9,q10,q11,q12,q13,q14,q15,q16,q17,q18,q19,q20,q21,q26,e24] at hK)
   have kf:=KF.out W hS
   obtain ⟨kr0,kr1⟩:=KQ.out W hS
   go_simp
   refine hK.out undef _ ⟨⟨by simpa using hz,.inl ⟨Lst.self (by rw [hz];omega),fun j hj hj2=>Lst.fwd (hb.out j (by simp;omega))⟩⟩,h0.k,h1.k,h2.k,h3.k,h4.k,h5.k,h6.k,h7.k,h8.k,h9.k,h10.k,h11.k,h12.k,h13.k,h14.k,h15.k,h16.k,h17.k,h18.k,h19.k,h20.k,h21.k,⟨fun hl=>let ⟨A3,c3,e,o,r⟩:=(h22.out hl.b);⟨A3,c3,e,ownZ_keep o (fun b hb=>heap_set_far (heap_set_far rfl (by have:=(r b hb).1;show b≠g;omega)) (by have:=(r b hb).1;show b≠g;omega)),fun b hb=>by have:=r b hb;simp;omega⟩⟩,⟨fun hl=>let ⟨A3,c3,e,o,r⟩:=(h23.out hl.b);⟨A3,c3,e,ownZ_keep o (fun b hb=>heap_set_far (heap_set_far rfl (by have:=(r b hb).1;show b≠g;omega)) (by have:=(r b hb).1;show b≠g;omega)),fun b hb=>by have:=r b hb;simp;omega⟩⟩,⟨fun hl=>let ⟨A3,c3,e,o,r⟩:=(h24.out hl.b);⟨A3,c3,e,ownZ_keep o (fun b hb=>heap_set_far (heap_set_far rfl (by have:=(r b hb).1;show b≠g;omega)) (by have:=(r b hb).1;show b≠g;omega)),fun b hb=>by have:=r b hb;simp;omega⟩⟩,h25.k,h26.k,⟨fun _=>⟨W,A3,c3,hS,⟨hown3,hrow3⟩,rfl⟩⟩⟩
  exact StepsL.nil
 ·intro l f W hR hall
  obtain ⟨hS,h0,h1,h2,h3,h4,h5,h6,h7,h8,h9,h10,h11,h12,h13,h14,h15,h16,h17,h18,h19,h20,h21,h22,h23,h24,h25,h26,h27⟩:=hR
  have q0:=h0.out (hall 0 (by decide))
  have q1:=h1.out (hall 1 (by decide))
  have q2:=h2.out (hall 2 (by decide))
  have q3:=h3.out (hall 3 (by decide))
  have q4:=h4.out (hall 4 (by decide))
  have q5:=h5.out (hall 5 (by decide))
  have q6:=h6.out (hall 6 (by decide))
  have q7:=h7.out (hall 7 (by decide))
  have q8:=h8.out (hall 8 (by decide))
  have q9:=h9.out (hall 9 (by decide))
  have q10:=h10.out (hall 10 (by decide))
  have q11:=h11.out (hall 11 (by decide))
  have q12:=h12.out (hall 12 (by decide))
  have q13:=h13.out (hall 13 (by decide))
  have q14:=h14.out (hall 14 (by decide))
  have q15:=h15.out (hall 15 (by decide))
  have q16:=h16.out (hall 16 (by decide))
  have q17:=h17.out (hall 17 (by decide))
  have q18:=h18.out (hall 18 (by decide))
  have q19:=h19.out (hall 19 (by decide))
  have q20:=h20.out (hall 20 (by decide))
  have q21:=h21.out (hall 21 (by decide))
  have q22:=h22.out (hall 22 (by decide))
  have q23:=h23.out (hall 23 (by decide))
  have q24:=h24.out (hall 24 (by decide))
  have q25:=h25.out (hall 25 (by decide))
  have q26:=h26.out (hall 26 (by decide))
  have q27:=h27.out (hall 27 (by decide))
  clear h0 h1 h2 h3 h4 h5 h6 h7 h8 h9 h10 h11 h12 h13 h14 h15 h16 h17 h18 h19 h20 h21 h22 h23 h24 h25 h26 h27
  simp only [List.drop_succ_cons,List.drop_zero]
  obtain ⟨W0,A3,c3,hS0,⟨hown3,hrow3⟩,eW⟩:=q27
  simp only [pfs]
  simp only [q25]
  clear q0 q1 q2 q3 q4 q5 q6 q7 q8 q9 q10 q11 q12 q13 q14 q15 q16 q17 q18 q19 q20 q21 q22 q23 q24 q25 q26 hall hS
  have hfin:∃G',Rn gr gk G' F B W c S m {d with ins:=d.ins.set i (takeR (nth d.ins i))} T k Ak nk ac Al nl now to_∧REff gr gk B F G G' w W:=by
   obtain ⟨G',r1,r2⟩:=hset1.out W0 A3 c3 (takeR (nth d.ins i)) hS0 hown3 hrow3
   exact ⟨G',by rw [eW];exact r1,by rw [eW];exact hE1.out.trans r2⟩
  obtain ⟨G3,hR3,hE3⟩:=hfin
  have hx3:W.heap[w.heap.size]?=some (.cells #[.int .i64 5,.int .i64 i,.int .i64 v] 52 (0,0)):=by rw [eW];exact heap_set_far (heap_set_far (KX.out W0 hS0) (by simp;omega)) (by simp;omega)
  have HT:=zH (fun W4 (hb:Below W.heap.size W W4) t kd x y=>runnerTell_from hR3 hb t kd x y hn)
  have hE4:=zH hE3
  obtain ⟨cb3,fb3,zb3⟩:=blk hR3.blk
  obtain ⟨cx3,fx3,zx3⟩:=blk hx3
  clear hown3 hrow3 hR3 hE3 hx3 hset1 hw1 KR KK KX KQ KF HM hS0 eW
  obtain ⟨W3,hW3⟩:∃W3,W3=W:=⟨_,rfl⟩
  go_upto_region 12 with (fail)
  (refine wp_region_still_tail 11 (by kernel_rfl) (by kernel_rfl) ?_;simp only [List.take_succ_cons,List.take_zero,List.drop_succ_cons,List.drop_zero];(iterate 11 (with_reducible refine wpStill_step (fun K hK=>?_);replace hK:=zH hK;go_simp;with_reducible refine hK.out _ ?_;clear hK K));refine wpStill_nil ?_)
  go_wp2_with fail
  go_at_call 82
  refine (HT.out _ byB _ _ _ _).mono ?_
  rintro e w1 ⟨hr,-⟩
  have hr2:=hr.from hE4.out
  obtain ⟨rfl,hr3⟩:=hr2
  replace hr3:=zH hr3
  clear hr
  go_wp2_with fail
  refine bodyPost_end (v:= .tuple #[]) (by simp [results,Tryd.results88,go_sem, *]) rfl ?_
  exact ⟨rfl,hr3.out⟩
end
end Go.Proofs.YtinlmkhlgclbfabDoor
