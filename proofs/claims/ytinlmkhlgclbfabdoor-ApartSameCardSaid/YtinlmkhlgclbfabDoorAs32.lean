/- TurnC -/
import Derived.Test.YtinlmkhlgclbfabDoorAs29
namespace Go.Proofs.YtinlmkhlgclbfabDoor
open Go.RowKit
set_option maxRecDepth 100000
set_option maxHeartbeats 8000000
theorem turnEnter (c:TCfg)(S:TCfgS)(ar:List TArr)(A:Option Addr)(n:Nat)(s:Int)(d:TDom)(T:TDomS)(t0 t1:Int)(ok:CfgOk c)(h40:ar.length≤40)(hln:∀i,i < ar.length→0≤(nth ar i).line∧(nth ar i).line < c.owners.length)
  (h:0≤s∧s < c.slots.length) (hlt:d.taken.length=c.owners.length) (htk:∀i,i < d.taken.length→0≤nth d.taken i∧nth d.taken i≤15) (hev:d.events.length+1≤4398046511104)
  (G:Nat→Nat→Prop) (B:Nat) (w:World) (hB:B≤w.heap.size) (hs:TCfg.At (Low B) w c S) (hl:Sl cArr (Low B) w A n ar) (hO:DomO G w d T) (hap:∀i b,G i b→B≤b):
  Calls Tryd.prog 50 #[.agg #[.int .i64 c.sets,.int .i64 c.ways,.int .i64 c.doms,.int .i64 c.pad,.int .i64 c.quantum,.slice S.a0 c.slots.length S.n0,.slice S.a1 c.owners.length S.n1,.slice S.a2 c.chans.length S.n2,.slice S.a3 c.tasks.length S.n3],.slice A ar.length n,.int .i64 s,.agg #[.slice T.a0 d.jobs.length T.n0,.slice T.a1 d.released.length T.n1,.int .i64 d.next,.slice T.a2 d.ins.length T.n2,.slice T.a3 d.taken.length T.n3,.slice T.a4 d.outs.length T.n4,.slice T.a5 d.events.length T.n5],.int .i64 t0,.int .i64 t1] w fun e w'=>∃T' G',e= .returned (.agg #[.slice T'.a0 (openOf c ar s d t0 t1).jobs.length T'.n0,.slice T'.a1 (openOf c ar s d t0 t1).released.length T'.n1,.int .i64 (openOf c ar s d t0 t1).next,.slice T'.a2 (openOf c ar s d t0 t1).ins.length T'.n2,.slice T'.a3 (openOf c ar s d t0 t1).taken.length T'.n3,.slice T'.a4 (openOf c ar s d t0 t1).outs.length T'.n4,.slice T'.a5 (openOf c ar s d t0 t1).events.length T'.n5])∧DomO G' w' (openOf c ar s d t0 t1) T'∧DEff B G G' w w':=by
 obtain ⟨sn,rfl⟩:=Int.eq_ofNat_of_zero_le h.1
 have hsn:sn < c.slots.length:=by omega
 have HC1:=zH (fun W (h:Below w.heap.size w W)=>mailCame c S ar (nth c.slots sn).dom t0 t1 ok.nowners h40 hln A n B W (Nat.le_trans hB h.size) (hs.next hB h) (hl.next hB h))
 have n6:=ok.nslots
 replace hlt:=zH hlt
 (obtain ⟨a0,n0,a1,n1,a2,n2,a3,n3⟩:=S;obtain ⟨hs0,hs1,hs2,hs3⟩:=hs;dsimp only at hs0 hs1 hs2 hs3⊢)
 obtain ⟨b1,o1,rfl,hI1,k0,k1⟩:=hs0.at_slot hsn
 go_enter Tryd.func50,Tryd.ntmps50
 go_wp2_with fail
 generalize hWa:((w.alloc (.cells #[.int .i64 c.sets,.int .i64 c.ways,.int .i64 c.doms,.int .i64 c.pad,.int .i64 c.quantum,.slice (some ⟨b1,o1,none⟩) c.slots.length n0,.slice a1 c.owners.length n1,.slice a2 c.chans.length n2,.slice a3 c.tasks.length n3] 27)).alloc (.cells #[.slice T.a0 d.jobs.length T.n0,.slice T.a1 d.released.length T.n1,.int .i64 d.next,.slice T.a2 d.ins.length T.n2,.slice T.a3 d.taken.length T.n3,.slice T.a4 d.outs.length T.n4,.slice T.a5 d.events.length T.n5] 46)).alloc (.cells #[.slice none 0 0,.slice none 0 0,.int .i64 0,.slice none 0 0,.slice none 0 0,.slice none 0 0,.slice none 0 0] 46)=Wa
 have hc0:Wa.heap[w.heap.size]?=some (.cells #[.int .i64 c.sets,.int .i64 c.ways,.int .i64 c.doms,.int .i64 c.pad,.int .i64 c.quantum,.slice (some ⟨b1,o1,none⟩) c.slots.length n0,.slice a1 c.owners.length n1,.slice a2 c.chans.length n2,.slice a3 c.tasks.length n3] 27):=by rw [← hWa];exact byH
 have hd0:Wa.heap[w.heap.size+1]?=some (.cells #[.slice T.a0 d.jobs.length T.n0,.slice T.a1 d.released.length T.n1,.int .i64 d.next,.slice T.a2 d.ins.length T.n2,.slice T.a3 d.taken.length T.n3,.slice T.a4 d.outs.length T.n4,.slice T.a5 d.events.length T.n5] 46):=by rw [← hWa];exact byH
 have hr0:Wa.heap[w.heap.size+2]?=some (.cells #[.slice none 0 0,.slice none 0 0,.int .i64 0,.slice none 0 0,.slice none 0 0,.slice none 0 0,.slice none 0 0] 46):=by rw [← hWa];exact byH
 have hwa:Below w.heap.size w Wa:=by rw [← hWa];exact byB
 have hsa:Wa.heap.size=w.heap.size+3:=by rw [← hWa];simp
 replace hWa:=zH hWa
 have hbl:b1 < w.heap.size:=Nat.lt_of_lt_of_le hI1 hB
 have kd:∀W,Below Wa.heap.size Wa W→W.cell? ⟨b1,o1+sn*2,none⟩=some (.int .i64 (nth c.slots sn).dom):=fun W h=>((hwa.trans (h.mono (by omega))).cell (p:=⟨b1,_,none⟩) hbl).trans k0
 replace kd:=zH kd
 have i0:(0:Int)≤sn:=by omega
 have i1:(sn:Int) < c.slots.length:=by omega
 refine wp_region_inv [15,16,17,18,19,20,21,22,23,24,25,26,27] (fun l f W=>(Below Wa.heap.size Wa W∧l.size=13)∧Fa l 0 (f 15= .agg #[.int .i64 c.sets,.int .i64 c.ways,.int .i64 c.doms,.int .i64 c.pad,.int .i64 c.quantum,.slice (some ⟨b1,o1,none⟩) c.slots.length n0,.slice a1 c.owners.length n1,.slice a2 c.chans.length n2,.slice a3 c.tasks.length n3])∧Fa l 1 (f 16= .slice A ar.length n)∧Fa l 2 (f 17= .pointer (some ⟨w.heap.size,5,none⟩))∧Fa l 3 (f 18= .slice (some ⟨b1,o1,none⟩) c.slots.length n0)∧Fa l 4 (f 19= .int .i64 sn)∧Fa l 5 (f 20= .pointer (some ⟨b1,o1+sn*2,none⟩))∧Fa l 6 (f 21= .pointer (some ⟨b1,o1+sn*2,none⟩))∧Fa l 7 (f 22= .int .i64 (nth c.slots sn).dom)∧Fa l 8 (f 23= .int .i64 t0)∧Fa l 9 (f 24= .int .i64 t1)∧Fa l 10 (∃A2 c2,f 25= .slice A2 (cameOf c.owners (nth c.slots sn).dom t0 t1 ar).length c2∧Sl cInt (Rng Wa.heap.size W.heap.size) W A2 c2 (cameOf c.owners (nth c.slots sn).dom t0 t1 ar))∧Fa l 11 (f 26= .int .i64 (cameOf c.owners (nth c.slots sn).dom t0 t1 ar).length)∧Fa l 12 (f 27= .int .i64 0)) (by kernel_rfl) (by decide) (by kernel_rfl) (by intro s hs;simp at hs⊢;omega) ?_ ?_ ?_
 ·intro l hz hl
  exact ⟨⟨(Below.refl _ _).drew,hz⟩,.no (hl 0),.no (hl 1),.no (hl 2),.no (hl 3),.no (hl 4),.no (hl 5),.no (hl 6),.no (hl 7),.no (hl 8),.no (hl 9),.no (hl 10),.no (hl 11),.no (hl 12)⟩
 ·refine StepsL.c 1 [] (fun l f W hR hn hb K Q2 hK=>?_) ?_
  ·obtain ⟨hS,h0,h1,h2,h3,h4,h5,h6,h7,h8,h9,h10,h11,h12⟩:=hR
   clear hb
   refine ⟨?_⟩
   simp only [pfs] at hK⊢
   obtain ⟨cX,fX,zX⟩:=blk ((hS.1.block _ (by omega)).trans hc0)
   go_simp
   exact hK.out _ _ byK
  refine StepsL.c 2 [] byOp ?_
  refine StepsL.c 3 [] byOp ?_
  refine StepsL.c 4 [2] (fun l f W hR hn hb K Q2 hK=>?_) ?_
  ·obtain ⟨hS,h0,h1,h2,h3,h4,h5,h6,h7,h8,h9,h10,h11,h12⟩:=hR
   have q2:=h2.out (hb 2 (by simp))
   clear hb
   refine ⟨?_⟩
   simp only [pfs] at hK⊢
   (try simp only [q2] at hK)
   obtain ⟨cX,fX,zX⟩:=blk ((hS.1.block _ (by omega)).trans hc0)
   go_simp
   exact hK.out _ _ byK
  refine StepsL.c 5 [] byOp ?_
  refine StepsL.c 6 [3,4] (fun l f W hR hn hb K Q2 hK=>?_) ?_
  ·obtain ⟨hS,h0,h1,h2,h3,h4,h5,h6,h7,h8,h9,h10,h11,h12⟩:=hR
   have q3:=h3.out (hb 3 (by simp))
   have q4:=h4.out (hb 4 (by simp))
   clear hb
   refine ⟨?_⟩
   simp only [pfs] at hK⊢
   (try simp only [q3,q4] at hK)
   go_simp
   exact hK.out _ _ byK
  refine StepsL.c 7 [5] (fun l f W hR hn hb K Q2 hK=>?_) ?_
  ·obtain ⟨hS,h0,h1,h2,h3,h4,h5,h6,h7,h8,h9,h10,h11,h12⟩:=hR
   have q5:=h5.out (hb 5 (by simp))
   clear hb
   refine ⟨?_⟩
   simp only [pfs] at hK⊢
   (try simp only [q5] at hK)
   go_simp
   exact hK.out _ _ byK
  refine StepsL.c 8 [6] (fun l f W hR hn hb K Q2 hK=>?_) ?_
  ·obtain ⟨hS,h0,h1,h2,h3,h4,h5,h6,h7,h8,h9,h10,h11,h12⟩:=hR
   have q6:=h6.out (hb 6 (by simp))
   clear hb
   refine ⟨?_⟩
   simp only [pfs] at hK⊢
   (try simp only [q6] at hK)
   have kd:=kd.out W hS.1
   go_simp
   exact hK.out _ _ byK
  refine StepsL.c 9 [] byOp ?_
  refine StepsL.c 10 [] byOp ?_
  refine StepsL.c 11 [0,1,7,8,9] (fun l f W hR hn hb K Q2 hK=>?_) ?_
  ·obtain ⟨hS,h0,h1,h2,h3,h4,h5,h6,h7,h8,h9,h10,h11,h12⟩:=hR
   have q0:=h0.out (hb 0 (by simp))
   have q1:=h1.out (hb 1 (by simp))
   have q7:=h7.out (hb 7 (by simp))
   have q8:=h8.out (hb 8 (by simp))
   have q9:=h9.out (hb 9 (by simp))
   clear hb
   refine ⟨?_⟩
   simp only [pfs] at hK⊢
   (try simp only [q0,q1,q7,q8,q9] at hK)
   have HC:=HC1.out W (hwa.trans (hS.1.mono (by omega)))
   go_simp
   go_at_call 60
   refine HC.mono ?_
   clear HC
   rintro e w3 ⟨A2,c2,rfl,hs3,hb3⟩
   try dsimp only
   try simp only [Act.put,List.setIfInBounds_toArray,List.set_cons_zero,List.set_cons_succ]
   refine hK.out _ _ ⟨⟨hS.1.trans (hb3.mono hS.1.size),by simpa using hS.2⟩,h0.k,h1.k,h2.k,h3.k,h4.k,h5.k,h6.k,h7.k,h8.k,h9.k,⟨fun _=>⟨A2,c2,rfl,hs3.mono fun b hb=>⟨by have:=hS.1.size;have:=hb.1;omega,hb.2⟩⟩⟩,h11.k,h12.k⟩
  refine StepsL.c 12 [10] (fun l f W hR hn hb K Q2 hK=>?_) ?_
  ·obtain ⟨hS,h0,h1,h2,h3,h4,h5,h6,h7,h8,h9,h10,h11,h12⟩:=hR
   have q10:=h10.out (hb 10 (by simp))
   obtain ⟨A2,c2,e10,_⟩:=q10
   clear hb
   refine ⟨?_⟩
   simp only [pfs] at hK⊢
   (try simp only [e10] at hK)
   go_simp
   exact hK.out _ _ byK
  refine StepsL.c 13 [] byOp ?_
  exact StepsL.nil
 ·intro l f W hR hall
  obtain ⟨hS,h0,h1,h2,h3,h4,h5,h6,h7,h8,h9,h10,h11,h12⟩:=hR
  have q0:=h0.out (hall 0 (by decide))
  have q1:=h1.out (hall 1 (by decide))
  have q2:=h2.out (hall 2 (by decide))
  have q3:=h3.out (hall 3 (by decide))
  have q4:=h4.out (hall 4 (by decide))
  have q5:=h5.out (hall 5 (by decide))
  have q6:=h6.out (hall 6 (by decide))
  have q7:=h7.out (hall 7 (by decide))
  have q8:=h8.out (hall 8 (by decide))
  have q9:=h9.out (hall 9 (by decide))
  have q10:=h10.out (hall 10 (by decide))
  have q11:=h11.out (hall 11 (by decide))
  have q12:=h12.out (hall 12 (by decide))
  clear h0 h1 h2 h3 h4 h5 h6 h7 h8 h9 h10 h11 h12
  obtain ⟨A2,c2,e10,hns⟩:=q10
  simp only [pfs]
  simp only [e10,q11,q12]
  clear q0 q1 q2 q3 q4 q5 q6 q7 q8 q9 e10 q11 q12 hall
  obtain ⟨w1,rfl⟩:∃X,X=W:=⟨_,rfl⟩
  have hb1:Below Wa.heap.size Wa w1:=hS.1
  have hz1:=hb1.size
  have hzw:B≤w1.heap.size:=by omega
  clear hS
  have HV:=zH (fun i (hi:i < c.owners.length)=>show 0≤nth (cameOf c.owners (nth c.slots sn).dom t0 t1 ar) i∧nth (cameOf c.owners (nth c.slots sn).dom t0 t1 ar) i≤40 by rw [nth_cameOf hi];have:=cameN_le c.owners (nth c.slots sn).dom t0 t1 ar i;omega)
  have HL:=zH (cameOf_length c.owners (nth c.slots sn).dom t0 t1 ar)
  have HE:=zH (show ∀NS,NS=(cameOf c.owners (nth c.slots sn).dom t0 t1 ar)→openOf c ar sn d t0 t1= {openTaken NS d with events:=(openTaken NS d).events++[⟨t1,1,sn,0⟩]} from fun NS e=>by subst e;rfl)
  generalize hNS:(cameOf c.owners (nth c.slots sn).dom t0 t1 ar)=NS at*
  replace hNS:=zH hNS
  have hOa:DomO G w1 d T:=hO.keep (fun i b hb=>((hwa.trans (hb1.mono (by omega))).block b (hO.lt i b hb))) (by omega)
  have hnG:∀b,w.heap.size≤b→∀i,¬ G i b:=fun b hb i h=>by have:=hO.lt i b h;omega
  have cc1:=(hb1.block _ (by omega)).trans hc0
  have cd1:=(hb1.block _ (by omega)).trans hd0
  have cr1:=(hb1.block _ (by omega)).trans hr0
  replace hOa:=zH hOa
  go_wp2_with fail
  go_loopw [27] (fun iv wr=>∃(i:Nat),i≤NS.length∧iv= .int .i64 i∧Hid (DomO G wr (upTo (openStep NS) i 0 d) T)∧DEff B G G w1 wr) (fun iv _=>NS.length - (intOf iv).toNat)
  case atStart=>exact ⟨0,Nat.zero_le _,rfl,hOa,DEff.refl _ _ _⟩
  case round=>
   obtain ⟨i,hi,rfl,hOi,hE⟩:=hrel
   have so:=hE.below.size
   by_cases hlt2:i < NS.length
   ·obtain ⟨tk,htl,htd⟩:=openTaken_eq NS d i 0
    have hti:nth tk i=nth d.taken i:=by have:=openTaken_at NS d i i (Nat.le_refl _);rw [htd] at this;exact this
    have hio:i < c.owners.length:=by rw [← HL.out];exact hlt2
    have hid:i < d.taken.length:=by rw [hlt.out];exact hio
    have hr1:=HV.out i hio
    have hr2:=htk i hid
    have hOi2:=hOi.out
    rw [htd] at hOi2
    obtain ⟨g3,e3,hG3,hg3,hc3,hf3,hset⟩:=hOi2.taken (i:=i) (by show i < tk.length;omega)
    replace hc3:wr.cell? ⟨g3,i,none⟩=some (.int .i64 (nth tk i)):=hc3
    obtain ⟨b9,o9,e9,I9,k9⟩:=(hns.keep (fun b hb=>hE.keep b hb.2 (hnG b (by have:=hb.1;omega)))).at_int hlt2
    have cdw:=(hE.keep _ (by omega) (hnG _ (by omega))).trans cd1
    rw [e3] at cdw
    obtain ⟨cX,fX,zX⟩:=blk cdw
    have hw:IntKind.i64.wrap (nth tk i+nth NS i)=nth tk i+nth NS i:=IntWalk.i64_in _ (by omega)
    have j0:(0:Int)≤i:=by omega
    have j1:(i:Int) < NS.length:=by omega
    have j2:(i:Int) < d.taken.length:=by omega
    subst e9
    clear e3
    go_wp2_with fail
    (refine wp_region_still_tail 12 (by kernel_rfl) (by kernel_rfl) ?_;simp only [List.take_succ_cons,List.take_zero,List.drop_succ_cons,List.drop_zero];(iterate 12 (with_reducible refine wpStill_step (fun K hK=>?_);replace hK:=zH hK;go_simp;with_reducible refine hK.out _ ?_;clear hK K));refine wpStill_nil ?_)
    change wpList _ _ _ _ _ wr.drew
    go_wp2_with fail
    have hm:(if nth d.taken i+nth NS i < 15 then nth d.taken i+nth NS i else 15)=min 15 (nth tk i+nth NS i):=by rw [hti];split<;>omega
    rw [hm]
    have hD:=hset (min 15 (nth tk i+nth NS i))
    have hst:upTo (openStep NS) (i+1) 0 d= {d with taken:=tk.set i (min 15 (nth tk i+nth NS i))} :=by rw [upTo_last,Nat.zero_add,htd];rfl
    have hdr:=fun W:World=>(Below.refl W.heap.size W).drew
    generalize hWs:wr.setCell {block:=g3,off:=i} (.int .i64 (min 15 (nth tk i+nth NS i)))=Ws at*
    have hDD:DomO G Ws.drew (upTo (openStep NS) (i+1) 0 d) T:=by rw [hst];exact hD.keep (fun i b hb=>(hdr _).block b (hD.lt i b hb)) (hdr _).size
    have hS1:DEff B G G wr Ws:=by rw [← hWs];exact ⟨Below.setCell (Below.refl _ _) (hap 3 g3 hG3) _,fun b hb hn=>heap_set_far rfl (fun e=>hn 3 (e ▸ hG3)),fun i b h=> .inl h⟩
    have hEE:DEff B G G w1 Ws.drew:=(hE.trans hS1).trans (DEff.ext (show B≤Ws.heap.size from Nat.le_trans hzw (Nat.le_trans so hS1.below.size)) (hdr Ws))
    replace hDD:=zH hDD
    have hi4:i < 100:=by have:=ok.nowners;omega
    refine ⟨⟨i+1,by omega,?_,hDD,hEE⟩,?_⟩
    ·rw [IntWalk.wrap64_in _ (by omega)];rfl
    ·rw [IntWalk.wrap64_in _ (by omega)];simp [intOf];omega
   ·obtain rfl:i=NS.length:=by omega
    obtain ⟨tk,htl,htd⟩:=openTaken_eq NS d NS.length 0
    have hOt:=hOi.out
    rw [htd] at hOt
    have cdw:=(hE.keep _ (by omega) (hnG _ (by omega))).trans cd1
    have crw:=(hE.keep _ (by omega) (hnG _ (by omega))).trans cr1
    obtain ⟨cA,fA,zA⟩:=blk cdw
    obtain ⟨cB,fB,zB⟩:=blk crw
    have hown:ownsZ wr 79 4 (.slice T.a5 d.events.length T.n5) d.events.length (d.events.flatMap TEv.cells):=(ozl_flat.1 hOt.o5).1
    have hrow:∀b,rowZ (.slice T.a5 d.events.length T.n5)=some b→G 5 b:=(ozl_flat.1 hOt.o5).2
    have HV2:=fun {A:Option Addr} {cc:Nat} {W w3:World} =>zH (dom_events hOt hap (show B≤wr.heap.size by omega) ⟨t1,1,sn,0⟩ (A:=A) (cc:=cc) (W:=W) (w3:=w3))
    have h1e:∀u∈[Value.int .i64 t1,.int .i64 1,.int .i64 sn,.int .i64 0],u.oneCell'=true:=by intro u hu;exact one_ev [⟨t1,1,sn,0⟩] u (by simpa [TEv.cells] using hu)
    have hzr:w.heap.size+3≤wr.heap.size:=by omega
    replace hown:=zH hown
    replace htl:=zH htl
    replace htd:=zH htd
    replace hE:=zH hE
    have hsa2:w.heap.size≤Wa.heap.size:=by omega
    clear hOt hOa hz1 hsa so
    go_wp2_with (at_builtin;refine wpList_appZ rfl (.tmp 46) (.tmp 50) _ rfl tyEv (.slice T.a5 d.events.length T.n5) d.events.length (d.events.flatMap TEv.cells) (by rfl) (ownZ_keep hown.out (fun b hb=>heap_alloc_old _ _ (ownZ_lt hown.out b hb))) (some ⟨wr.heap.size,0,none⟩) 1 1 [.int .i64 t1,.int .i64 1,.int .i64 sn,.int .i64 0] (by rfl) byR h1e (by unfold maxLen;omega) (by omega) (fun A3 c3 w3 own3 gr3 at3=>?_);have z3:wr.heap.size+1≤w3.heap.size:=(by have:=gr3.size;simpa using this);have hbA:w3.heap[w.heap.size+1]?=some (.cells #[.slice T.a0 d.jobs.length T.n0,.slice T.a1 d.released.length T.n1,.int .i64 d.next,.slice T.a2 d.ins.length T.n2,.slice T.a3 d.taken.length T.n3,.slice T.a4 d.outs.length T.n4,.slice T.a5 d.events.length T.n5] 46):=(gr3.block _ byS (fun e=>hnG (w.heap.size+1) (by omega) 5 (hrow _ e.symm))).trans (by exact byH);have hbB:w3.heap[w.heap.size+2]?=some (.cells #[.slice none 0 0,.slice none 0 0,.int .i64 0,.slice none 0 0,.slice none 0 0,.slice none 0 0,.slice none 0 0] 46):=(gr3.block _ byS (fun e=>hnG (w.heap.size+2) (by omega) 5 (hrow _ e.symm))).trans (by exact byH);clear cA fA cB fB;obtain ⟨cA,fA,zA⟩:=blk hbA;obtain ⟨cB,fB,zB⟩:=blk hbB)
    have hh:=(HV2 (W:=wr.alloc (.cells #[.int .i64 t1,.int .i64 1,.int .i64 sn,.int .i64 0] 79))).out byB (by simpa [TEv.cells] using own3) gr3 at3
    obtain ⟨hO5,hE5⟩:=hh
    have hbB2:(w3.setCell ⟨w.heap.size+1,6,none⟩ (.slice A3 (d.events.length+1) c3)).heap[w.heap.size+2]?=some (.cells #[.slice none 0 0,.slice none 0 0,.int .i64 0,.slice none 0 0,.slice none 0 0,.slice none 0 0,.slice none 0 0] 46):=heap_set_far hbB (by simp)
    obtain ⟨cR,fR,zR⟩:=blk (dom_set (u0:= .slice T.a0 d.jobs.length T.n0) (u1:= .slice T.a1 d.released.length T.n1) (u2:= .int .i64 d.next) (u3:= .slice T.a2 d.ins.length T.n2) (u4:= .slice T.a3 d.taken.length T.n3) (u5:= .slice T.a4 d.outs.length T.n4) (u6:= .slice A3 (d.events.length+1) c3) hbB2)
    simp only [World.size_alloc] at hO5 hE5
    have hne:∀i b,addG G 5 (wr.heap.size+1) w3.heap.size i b→b≠w.heap.size+1∧b≠w.heap.size+2:=fun i b hb=>by
     rcases hb with hb|hb
     ·have:=hO.lt i b hb;omega
     ·omega
    refine bodyPost_ret (v:= .agg #[.slice T.a0 d.jobs.length T.n0,.slice T.a1 d.released.length T.n1,.int .i64 d.next,.slice T.a2 d.ins.length T.n2,.slice T.a3 d.taken.length T.n3,.slice T.a4 d.outs.length T.n4,.slice A3 (d.events.length+1) c3]) (by simp [results,Tryd.results50,go_sem, *]) rfl ?_
    have hEq:openOf c ar sn d t0 t1= {d with taken:=tk,events:=d.events++[⟨t1,1,sn,0⟩]} :=by
     rw [HE.out NS rfl]
     show ({upTo (openStep NS) NS.length 0 d with events:=(upTo (openStep NS) NS.length 0 d).events++[⟨t1,1,sn,0⟩]} :TDom)=_
     rw [htd.out]
    rw [hEq]
    have hE1:DEff B G G w wr:=(DEff.ext hB (hwa.trans (hb1.mono (by omega)))).trans hE.out
    have hE6:=hE1.trans hE5
    refine ⟨{T with a5:=A3,n5:=c3},by simp [htl.out],_,hO5.keep (fun i b hb=>(dom_far (hne i b hb).2).trans (heap_set_far rfl (hne i b hb).1)) (by simp),⟨dom_below (hE6.below.setCell (by simp;omega) _) (by omega),fun b hb hn=>(dom_far (by omega)).trans ((heap_set_far rfl (by simp;omega)).trans (hE6.keep b hb hn)),fun i b hb=>by simpa using hE6.grow i b hb⟩⟩
end Go.Proofs.YtinlmkhlgclbfabDoor
