/- LawApB -/
import Derived.Test.YtinlmkhlgclbfabDoorAs43
import Derived.Test.YtinlmkhlgclbfabDoorAs47
namespace Go.Proofs.YtinlmkhlgclbfabDoor
open Go.RowKit
set_option maxRecDepth 100000
set_option maxHeartbeats 8000000
theorem ap_only:onlyRes oneCfg exS1 0=exS1:=by decide+kernel
theorem ap_alone:aloneRes oneCfg exS1 0=nth exDs 0:=by decide+kernel
theorem apRun1 (S:TCfgS)(A0:Option Addr)(w:World)(hs:TCfg.At (Low w.heap.size) w oneCfg S)(hz:TScr.At (Low w.heap.size) w exS1 ⟨A0,1,none,0⟩):
  Calls Tryd.prog 8 #[.agg #[.int .i64 oneCfg.sets,.int .i64 oneCfg.ways,.int .i64 oneCfg.doms,.int .i64 oneCfg.pad,.int .i64 oneCfg.quantum,.slice S.a0 oneCfg.slots.length S.n0,.slice S.a1 oneCfg.owners.length S.n1,.slice S.a2 oneCfg.chans.length S.n2,.slice S.a3 oneCfg.tasks.length S.n3],.agg #[.slice A0 1 1,.slice none 0 0,.int .i64 1]] w fun e w'=>∃A n,e= .returned (.tuple #[.slice A 1 n,.int .i64 0])∧Sl cDom (Low w'.heap.size) w' A n exDs∧Below w.heap.size w w':=by
 have h:=apartRun oneCfg S exS1 _ w.heap.size w (Nat.le_refl _) hs hz
 rw [ex_check] at h
 refine h.mono ?_
 rintro e w' ⟨A,n,rfl,hO,hb⟩
 rw [ex_len]
 exact ⟨A,n,rfl,Sl.mono (DomsO.at hO) fun b hb=>hb.2,hb⟩
theorem apAlone1 (S:TCfgS)(A0:Option Addr)(w:World)(hs:TCfg.At (Low w.heap.size) w oneCfg S)(hz:TScr.At (Low w.heap.size) w exS1 ⟨A0,1,none,0⟩):
  Calls Tryd.prog 10 #[.agg #[.int .i64 oneCfg.sets,.int .i64 oneCfg.ways,.int .i64 oneCfg.doms,.int .i64 oneCfg.pad,.int .i64 oneCfg.quantum,.slice S.a0 oneCfg.slots.length S.n0,.slice S.a1 oneCfg.owners.length S.n1,.slice S.a2 oneCfg.chans.length S.n2,.slice S.a3 oneCfg.tasks.length S.n3],.agg #[.slice A0 1 1,.slice none 0 0,.int .i64 1],.int .i64 0] w (RetDomR (nth exDs 0) 0 w):=by
 have h:=apartAlone oneCfg S exS1 _ 0 w.heap.size w (Nat.le_refl _) hs hz
 rw [ap_alone,ex_ready] at h
 exact h
theorem apOnly1 (S:TCfgS)(A0:Option Addr)(w:World)(hs:TCfg.At (Low w.heap.size) w oneCfg S)(hz:TScr.At (Low w.heap.size) w exS1 ⟨A0,1,none,0⟩):
  Calls Tryd.prog 13 #[.agg #[.int .i64 oneCfg.sets,.int .i64 oneCfg.ways,.int .i64 oneCfg.doms,.int .i64 oneCfg.pad,.int .i64 oneCfg.quantum,.slice S.a0 oneCfg.slots.length S.n0,.slice S.a1 oneCfg.owners.length S.n1,.slice S.a2 oneCfg.chans.length S.n2,.slice S.a3 oneCfg.tasks.length S.n3],.agg #[.slice A0 1 1,.slice none 0 0,.int .i64 1],.int .i64 0] w (RetScrE exS1 0 w):=by
 have h:=apartOnly oneCfg S exS1 _ 0 w.heap.size w (Nat.le_refl _) hs hz
 rw [ap_only,ex_ready] at h
 exact h
theorem apSame1 (A0:Option Addr)(Z:TScrS)(w:World)(hs:TScr.At (Low w.heap.size) w exS1 Z)(hz:TScr.At (Low w.heap.size) w exS1 ⟨A0,1,none,0⟩):
  Calls Tryd.prog 14 #[.agg #[.slice Z.a0 1 Z.n0,.slice Z.a1 0 Z.n1,.int .i64 1],.agg #[.slice A0 1 1,.slice none 0 0,.int .i64 1]] w fun e w'=>e= .returned (.bool true)∧Below w.heap.size w w':=
 refSameScript exS1 Z ⟨A0,1,none,0⟩ w.heap.size w (Nat.le_refl _) hs hz
theorem lawApartBegun (w:World):Calls Tryd.prog 5 #[] w fun en w'=>en= .returned (.bool true)∧Below w.heap.size w w':=by
 have H0:=zH lawOne
 go_enter Tryd.func5,Tryd.ntmps5
 go_upto_region 2 with (fail)
 generalize hWa:((w.alloc (.cells #[.int .i64 6,.int .i64 0,.int .i64 0] 52)).alloc (.cells #[.slice (some ⟨w.heap.size,0,none⟩) 1 1] 53)).alloc (.cells #[.slice (some ⟨w.heap.size+1,0,none⟩) 1 1,.slice none 0 0,.int .i64 1] 31)=Wa
 have kz_:Wa.heap[w.heap.size+1+1]?=some (.cells #[.slice (some ⟨w.heap.size+1,0,none⟩) 1 1,.slice none 0 0,.int .i64 1] 31):=by rw [← hWa];exact heapAt _ _ _ (by simp)
 have hza:w.heap.size+1+1 < Wa.heap.size:=(blk kz_).2.2
 have k0:Wa.heap[w.heap.size]?=some (.cells #[.int .i64 6,.int .i64 0,.int .i64 0] 52):=by rw [← hWa];exact (heap_alloc_old _ _ (by simp;omega)).trans ((heap_alloc_old _ _ (by simp)).trans (heap_alloc_new _ _))
 have k1:Wa.heap[w.heap.size+1]?=some (.cells #[.slice (some ⟨w.heap.size,0,none⟩) 1 1] 53):=by rw [← hWa];exact (heap_alloc_old _ _ (by simp)).trans (heapAt _ _ _ (by simp))
 have hwa:Below w.heap.size w Wa:=by rw [← hWa];exact byB
 have hzA:TScr.At (Low Wa.heap.size) Wa exS1 ⟨some ⟨w.heap.size+1,0,none⟩,1,none,0⟩:=⟨sl_acts1 k1 (sl_block (cs:=#[.int .i64 6,.int .i64 0,.int .i64 0]) k0 rfl (by show _ < _;omega) (Nat.le_refl _) (by simp [maxLen])) (by show _ < _;omega),Sl.empty _ _ _⟩
 clear hWa k0 k1
 generalize (some ⟨w.heap.size+1,0,none⟩:Option Addr)=A0 at*
 have H2:=zH (fun S W (h:TCfg.At (Low W.heap.size) W oneCfg S) (hz:TScr.At (Low W.heap.size) W exS1 ⟨A0,1,none,0⟩) (_:Below Wa.heap.size Wa W)=>apRun1 S A0 W h hz)
 refine wp_region_inv [13,14,15,12,16,17,2,3] (fun l f W=>(Below Wa.heap.size Wa W∧l.size=8)∧Fa l 0 (∃S,f 13= .agg #[.int .i64 oneCfg.sets,.int .i64 oneCfg.ways,.int .i64 oneCfg.doms,.int .i64 oneCfg.pad,.int .i64 oneCfg.quantum,.slice S.a0 oneCfg.slots.length S.n0,.slice S.a1 oneCfg.owners.length S.n1,.slice S.a2 oneCfg.chans.length S.n2,.slice S.a3 oneCfg.tasks.length S.n3]∧(¬ Lst l 2→TCfg.At (Low W.heap.size) W oneCfg S))∧Fa l 1 (f 14= .agg #[.slice A0 1 1,.slice none 0 0,.int .i64 1])∧Fa l 2 (∃A n,f 15= .tuple #[.slice A 1 n,.int .i64 0]∧Sl cDom (Low W.heap.size) W A n exDs)∧Fa l 3 (Lst l 2∧f 12=f 15)∧Fa l 4 (Lst l 2∧∃b,f 15= .tuple #[f 16,b])∧Fa l 5 (Lst l 2∧∃a,f 15= .tuple #[a,f 17])∧Fa l 6 (Lst l 4∧f 2=f 16)∧Fa l 7 (Lst l 5∧f 3=f 17)) (by kernel_rfl) (by decide) (by kernel_rfl) (by intro s hs;simp at hs⊢;omega) ?_ ?_ ?_
 ·intro l hz hl
  exact ⟨⟨(Below.refl _ _).drew,hz⟩,.no (hl 0),.no (hl 1),.no (hl 2),.no (hl 3),.no (hl 4),.no (hl 5),.no (hl 6),.no (hl 7)⟩
 ·refine StepsL.c 1 [] (fun l f W hR hn hb K Q2 hK=>?_) ?_
  ·obtain ⟨hS,h0,h1,h2,h3,h4,h5,h6,h7⟩:=hR
   clear hb
   refine ⟨?_⟩
   simp only [pfs] at hK⊢
   have HC:=H0.out W
   go_simp
   go_at_call 12
   refine HC.mono ?_
   clear HC
   rintro e w3 ⟨S3,rfl,hs3,hb3⟩
   try dsimp only
   try simp only [Act.put,List.setIfInBounds_toArray,List.set_cons_zero,List.set_cons_succ]
   refine hK.out _ _ ⟨⟨hS.1.trans (hb3.mono hS.1.size),by simpa using hS.2⟩,⟨fun _=>⟨S3,rfl,fun _=>hs3.rng (Nat.le_refl _)⟩⟩,h1.k,⟨fun hl=>let ⟨A,n,e,h⟩:=(h2.out hl.b);⟨A,n,e,(h.keep fun b hb=>hb3.block b hb).mono fun b hb=>Nat.lt_of_lt_of_le hb hb3.size⟩⟩,h3.m,h4.m,h5.m,h6.m,h7.m⟩
  refine StepsL.c 2 [] (fun l f W hR hn hb K Q2 hK=>?_) ?_
  ·obtain ⟨hS,h0,h1,h2,h3,h4,h5,h6,h7⟩:=hR
   clear hb
   refine ⟨?_⟩
   simp only [pfs] at hK⊢
   have hbx:=(hS.1.block _ hza).trans kz_
   obtain ⟨cX,fX,zX⟩:=blk hbx
   go_simp
   refine hK.out _ _ ⟨⟨hS.1,by simpa using hS.2⟩,⟨fun hl=>let ⟨S,a,b⟩:=(h0.out hl.b);⟨S,a,fun h=>b fun h2=>h h2.fwd⟩⟩,⟨fun _=>rfl⟩,h2.k,h3.m,h4.m,h5.m,h6.m,h7.m⟩
  refine StepsL.c 3 [0,1,0] (fun l f W hR hn hb K Q2 hK=>?_) ?_
  ·obtain ⟨hS,h0,h1,h2,h3,h4,h5,h6,h7⟩:=hR
   have q0:=h0.out (hb 0 (by simp))
   have q1:=h1.out (hb 1 (by simp))
   obtain ⟨S3,e0,hs3⟩:=q0
   have hs3:=hs3 hn
   have hsz:=hS.1.size
   have hz3:=(hzA.keep fun b hb=>hS.1.block b hb).up (B':=W.heap.size) hsz
   clear hb
   refine ⟨?_⟩
   simp only [pfs] at hK⊢
   (try simp only [q1,e0] at hK)
   have HC:=H2.out S3 W hs3 hz3 (hS.1)
   simp only [q1,e0]
   go_simp
   go_at_call 8
   refine HC.mono ?_
   clear HC
   rintro e w3 ⟨A9,n9,rfl,hD9,hb3⟩
   try dsimp only
   try simp only [Act.put,List.setIfInBounds_toArray,List.set_cons_zero,List.set_cons_succ]
   refine hK.out _ _ ⟨⟨hS.1.trans (hb3.mono hS.1.size),by simpa using hS.2⟩,⟨fun hl=>let ⟨S,a,b⟩:=(h0.out hl.b);⟨S,a,fun h=>absurd (Lst.self (by rw [hS.2];omega)) h⟩⟩,h1.k,⟨fun _=>⟨A9,n9,rfl,hD9⟩⟩,⟨fun hl=>absurd (h3.out hl.b).1 hn⟩,⟨fun hl=>absurd (h4.out hl.b).1 hn⟩,⟨fun hl=>absurd (h5.out hl.b).1 hn⟩,⟨fun hl=>absurd (h4.out (h6.out hl.b).1).1 hn⟩,⟨fun hl=>absurd (h5.out (h7.out hl.b).1).1 hn⟩⟩
  refine StepsL.c 4 [2] (fun l f W hR hn hb K Q2 hK=>?_) ?_
  ·obtain ⟨hS,h0,h1,h2,h3,h4,h5,h6,h7⟩:=hR
   have q2:=h2.out (hb 2 (by simp))
   have hb2:=hb 2 (by simp)
   have L2:=hb2
   obtain ⟨A,n,e2,_⟩:=q2
   clear hb
   refine ⟨?_⟩
   simp only [pfs] at hK⊢
   (try simp only [e2] at hK)
   simp only [e2]
   go_simp
   refine hK.out _ _ ⟨⟨hS.1,by simpa using hS.2⟩,⟨fun hl=>let ⟨S,a,b⟩:=(h0.out hl.b);⟨S,a,fun h=>b fun h2=>h h2.fwd⟩⟩,h1.k,h2.k,⟨fun _=>⟨L2.fwd,e2.symm⟩⟩,h4.m,h5.m,h6.m,h7.m⟩
  refine StepsL.c 5 [3] (fun l f W hR hn hb K Q2 hK=>?_) ?_
  ·obtain ⟨hS,h0,h1,h2,h3,h4,h5,h6,h7⟩:=hR
   have q3:=h3.out (hb 3 (by simp))
   obtain ⟨L2,e3⟩:=q3
   obtain ⟨A,n,e2,_⟩:=h2.out L2
   rw [e2] at e3
   clear hb
   refine ⟨?_⟩
   simp only [pfs] at hK⊢
   (try simp only [e3,e2] at hK)
   simp only [e3]
   go_simp
   refine hK.out _ _ ⟨⟨hS.1,by simpa using hS.2⟩,⟨fun hl=>let ⟨S,a,b⟩:=(h0.out hl.b);⟨S,a,fun h=>b fun h2=>h h2.fwd⟩⟩,h1.k,h2.k,h3.m,⟨fun _=>⟨L2.fwd,_,e2⟩⟩,h5.m,⟨fun hl=>absurd (h6.out hl.b).1 hn⟩,h7.m⟩
  refine StepsL.c 6 [3] (fun l f W hR hn hb K Q2 hK=>?_) ?_
  ·obtain ⟨hS,h0,h1,h2,h3,h4,h5,h6,h7⟩:=hR
   have q3:=h3.out (hb 3 (by simp))
   obtain ⟨L2,e3⟩:=q3
   obtain ⟨A,n,e2,_⟩:=h2.out L2
   rw [e2] at e3
   clear hb
   refine ⟨?_⟩
   simp only [pfs] at hK⊢
   (try simp only [e3,e2] at hK)
   simp only [e3]
   go_simp
   refine hK.out _ _ ⟨⟨hS.1,by simpa using hS.2⟩,⟨fun hl=>let ⟨S,a,b⟩:=(h0.out hl.b);⟨S,a,fun h=>b fun h2=>h h2.fwd⟩⟩,h1.k,h2.k,h3.m,h4.m,⟨fun _=>⟨L2.fwd,_,e2⟩⟩,h6.m,⟨fun hl=>absurd (h7.out hl.b).1 hn⟩⟩
  refine StepsL.c 7 [4,2,0,1,2,3,4] (fun l f W hR hn hb K Q2 hK=>?_) ?_
  ·obtain ⟨hS,h0,h1,h2,h3,h4,h5,h6,h7⟩:=hR
   have q0:=h0.out (hb 0 (by simp))
   have q1:=h1.out (hb 1 (by simp))
   have q2:=h2.out (hb 2 (by simp))
   have q3:=h3.out (hb 3 (by simp))
   have q4:=h4.out (hb 4 (by simp))
   have hb4:=hb 4 (by simp)
   obtain ⟨L2,_,e4⟩:=q4
   obtain ⟨A,n,e2,_⟩:=h2.out L2
   have e5:=e2.symm.trans e4
   injection e5 with e5
   injection e5 with e5
   simp only [List.cons.injEq,and_true] at e5
   obtain ⟨e6,-⟩:=e5
   replace e6:=e6.symm
   have L5:=hb4
   clear e2 e4 q3
   clear hb
   refine ⟨?_⟩
   simp only [pfs] at hK⊢
   (try simp only [q1,e6] at hK)
   simp only [e6]
   go_simp
   refine hK.out _ _ ⟨⟨hS.1,by simpa using hS.2⟩,⟨fun hl=>let ⟨S,a,b⟩:=(h0.out hl.b);⟨S,a,fun h=>b fun h2=>h h2.fwd⟩⟩,h1.k,h2.k,h3.m,h4.m,h5.m,⟨fun _=>⟨L5.fwd,e6.symm⟩⟩,h7.m⟩
  refine StepsL.c 8 [5,6,0,1,2,3,4,5,6] (fun l f W hR hn hb K Q2 hK=>?_) ?_
  ·obtain ⟨hS,h0,h1,h2,h3,h4,h5,h6,h7⟩:=hR
   have q0:=h0.out (hb 0 (by simp))
   have q1:=h1.out (hb 1 (by simp))
   have q2:=h2.out (hb 2 (by simp))
   have q3:=h3.out (hb 3 (by simp))
   have q4:=h4.out (hb 4 (by simp))
   have q5:=h5.out (hb 5 (by simp))
   have q6:=h6.out (hb 6 (by simp))
   have hb5:=hb 5 (by simp)
   obtain ⟨L2,_,e4⟩:=q5
   obtain ⟨A,n,e2,_⟩:=h2.out L2
   have e5:=e2.symm.trans e4
   injection e5 with e5
   injection e5 with e5
   simp only [List.cons.injEq,and_true] at e5
   obtain ⟨-,e6⟩:=e5
   replace e6:=e6.symm
   have L5:=hb5
   clear e2 e4 q3 q6
   clear hb
   refine ⟨?_⟩
   simp only [pfs] at hK⊢
   (try simp only [q1,e6] at hK)
   simp only [e6]
   go_simp
   refine hK.out _ _ ⟨⟨hS.1,by simpa using hS.2⟩,⟨fun hl=>let ⟨S,a,b⟩:=(h0.out hl.b);⟨S,a,fun h=>b fun h2=>h h2.fwd⟩⟩,h1.k,h2.k,h3.m,h4.m,h5.m,h6.m,⟨fun _=>⟨L5.fwd,e6.symm⟩⟩⟩
  exact StepsL.nil
 ·intro l f W hR hall
  obtain ⟨hS,h0,h1,h2,h3,h4,h5,h6,h7⟩:=hR
  have q0:=h0.out (hall 0 (by decide))
  have q1:=h1.out (hall 1 (by decide))
  have q2:=h2.out (hall 2 (by decide))
  have q3:=h3.out (hall 3 (by decide))
  have q4:=h4.out (hall 4 (by decide))
  have q5:=h5.out (hall 5 (by decide))
  have q6:=h6.out (hall 6 (by decide))
  have q7:=h7.out (hall 7 (by decide))
  clear h0 h1 h2 h3 h4 h5 h6 h7
  obtain ⟨A9,n9,e2,hD9⟩:=q2
  obtain ⟨_,x0,e4⟩:=q4
  obtain ⟨_,y0,e5⟩:=q5
  rw [e2] at e4 e5
  simp only [Value.tuple.injEq,Array.mk.injEq,List.cons.injEq,and_true] at e4 e5
  have r2:=q6.2.trans e4.1.symm
  have r3:=q7.2.trans e5.2.symm
  have hb1:=hS.1
  simp only [putF,Act.put,List.setIfInBounds_toArray,List.set_cons_zero,List.set_cons_succ,r2,r3]
  clear q0 q1 q3 q6 q7 e2 e4 e5 r2 r3 hall hS
  replace hD9:=zH hD9
  obtain ⟨Wb,rfl⟩:∃X,X=W:=⟨_,rfl⟩
  have hwb:Below w.heap.size w Wb:=hwa.trans (hb1.mono (by omega))
  have hzb:w.heap.size+1+1 < Wb.heap.size:=by have:=hb1.size;omega
  have kzb:=(hb1.block _ hza).trans kz_
  have hzB:=(hzA.keep fun b hb=>hb1.block b hb).up (B':=Wb.heap.size) hb1.size
  clear hwa kz_ hza hzA hb1
  obtain ⟨hwa,kz_,hza,hzA⟩:=(⟨hwb,kzb,hzb,hzB⟩:_∧_∧_∧_)
  clear hwb kzb hzb hzB
  have H3:=zH (fun S W (h:TCfg.At (Low W.heap.size) W oneCfg S) (hz:TScr.At (Low W.heap.size) W exS1 ⟨A0,1,none,0⟩) (_:Below Wb.heap.size Wb W)=>apAlone1 S A0 W h hz)
  clear H2
  have hdnx:=zH ex_next
  generalize hdd:nth exDs 0=dd at*
  replace hdd:=zH hdd
  go_upto_region 3 with (fail)
  refine wp_region_inv [19,20,21,18,22,23,4,5] (fun l f W=>(Below Wb.heap.size Wb W∧l.size=9)∧Fa l 0 (∃S,f 19= .agg #[.int .i64 oneCfg.sets,.int .i64 oneCfg.ways,.int .i64 oneCfg.doms,.int .i64 oneCfg.pad,.int .i64 oneCfg.quantum,.slice S.a0 oneCfg.slots.length S.n0,.slice S.a1 oneCfg.owners.length S.n1,.slice S.a2 oneCfg.chans.length S.n2,.slice S.a3 oneCfg.tasks.length S.n3]∧(¬ Lst l 2→TCfg.At (Low W.heap.size) W oneCfg S))∧Fa l 1 (f 20= .agg #[.slice A0 1 1,.slice none 0 0,.int .i64 1])∧Fa l 2 (∃T4 a b,f 21= .tuple #[.agg #[.slice T4.a0 dd.jobs.length T4.n0,.slice T4.a1 dd.released.length T4.n1,.int .i64 dd.next,.slice T4.a2 dd.ins.length T4.n2,.slice T4.a3 dd.taken.length T4.n3,.slice T4.a4 dd.outs.length T4.n4,.slice T4.a5 dd.events.length T4.n5],.int .i64 0]∧TDom.At (Rng a b) W dd T4∧Wb.heap.size≤a∧b≤W.heap.size∧(Lst l 6→∃g,f 4= .pointer (some ⟨g,0,none⟩)∧¬ (a≤g∧g < b)))∧Fa l 3 (Lst l 2∧f 18=f 21)∧Fa l 4 (Lst l 2∧∃b,f 21= .tuple #[f 22,b])∧Fa l 5 (Lst l 2∧∃a,f 21= .tuple #[a,f 23])∧Fa l 6 (∃g,f 4= .pointer (some ⟨g,0,none⟩)∧Wb.heap.size≤g∧g < W.heap.size∧(¬ Lst l 7→W.heap[g]?=some (.cells #[.slice none 0 0,.slice none 0 0,.int .i64 0,.slice none 0 0,.slice none 0 0,.slice none 0 0,.slice none 0 0] 46)))∧Fa l 7 (Lst l 2∧Lst l 4∧Lst l 6∧∃g cs,f 4= .pointer (some ⟨g,0,none⟩)∧f 22= .agg cs∧g < W.heap.size∧W.heap[g]?=some (.cells cs 46))∧Fa l 8 (Lst l 5∧f 5=f 23)) (by kernel_rfl) (by decide) (by kernel_rfl) (by intro s hs;simp at hs⊢;omega) ?_ ?_ ?_
  ·intro l hz hl
   exact ⟨⟨(Below.refl _ _).drew,hz⟩,.no (hl 0),.no (hl 1),.no (hl 2),.no (hl 3),.no (hl 4),.no (hl 5),.no (hl 6),.no (hl 7),.no (hl 8)⟩
  ·refine StepsL.c 1 [] (fun l f W hR hn hb K Q2 hK=>?_) ?_
   ·obtain ⟨hS,h0,h1,h2,h3,h4,h5,h6,h7,h8⟩:=hR
    clear hb
    refine ⟨?_⟩
    simp only [pfs] at hK⊢
    have HC:=H0.out W
    go_simp
    go_at_call 12
    refine HC.mono ?_
    clear HC
    rintro e w3 ⟨S3,rfl,hs3,hb3⟩
    try dsimp only
    try simp only [Act.put,List.setIfInBounds_toArray,List.set_cons_zero,List.set_cons_succ]
    refine hK.out _ _ ⟨⟨hS.1.trans (hb3.mono hS.1.size),by simpa using hS.2⟩,⟨fun _=>⟨S3,rfl,fun _=>hs3.rng (Nat.le_refl _)⟩⟩,h1.k,⟨fun hl=>let ⟨T4,a,b,e,hA,h3,h4,h5⟩:=(h2.out hl.b);⟨T4,a,b,e,hA.keep fun b hb=>hb3.block b (Nat.lt_of_lt_of_le hb.2 h4),h3,Nat.le_trans h4 hb3.size,fun h=>h5 h.b⟩⟩,h3.m,h4.m,h5.m,⟨fun hl=>let ⟨g,e,h3,h4,h5⟩:=(h6.out hl.b);⟨g,e,h3,Nat.lt_of_lt_of_le h4 hb3.size,fun h=>(hb3.block _ h4).trans (h5 fun h2=>h h2.fwd)⟩⟩,⟨fun hl=>let ⟨a,b,c,g,cs,e,e4,h4,h⟩:=(h7.out hl.b);⟨a.fwd,b.fwd,c.fwd,g,cs,e,e4,Nat.lt_of_lt_of_le h4 hb3.size,(hb3.block _ h4).trans h⟩⟩,h8.m⟩
   refine StepsL.c 2 [] (fun l f W hR hn hb K Q2 hK=>?_) ?_
   ·obtain ⟨hS,h0,h1,h2,h3,h4,h5,h6,h7,h8⟩:=hR
    clear hb
    refine ⟨?_⟩
    simp only [pfs] at hK⊢
    have hbx:=(hS.1.block _ hza).trans kz_
    obtain ⟨cX,fX,zX⟩:=blk hbx
    go_simp
    refine hK.out _ _ ⟨⟨hS.1,by simpa using hS.2⟩,⟨fun hl=>let ⟨S,a,b⟩:=(h0.out hl.b);⟨S,a,fun h=>b fun h2=>h h2.fwd⟩⟩,⟨fun _=>rfl⟩,⟨fun hl=>let ⟨T4,a,b,e,hA,h3,h4,h5⟩:=(h2.out hl.b);⟨T4,a,b,e,hA,h3,h4,fun h=>h5 h.b⟩⟩,h3.m,h4.m,h5.m,⟨fun hl=>let ⟨g,e,h3,h4,h5⟩:=(h6.out hl.b);⟨g,e,h3,h4,fun h=>h5 fun h2=>h h2.fwd⟩⟩,h7.m,h8.m⟩
   refine StepsL.c 3 [0,1,0] (fun l f W hR hn hb K Q2 hK=>?_) ?_
   ·obtain ⟨hS,h0,h1,h2,h3,h4,h5,h6,h7,h8⟩:=hR
    have q0:=h0.out (hb 0 (by simp))
    have q1:=h1.out (hb 1 (by simp))
    obtain ⟨S3,e0,hs3⟩:=q0
    have hs3:=hs3 hn
    have hsz:=hS.1.size
    have hz3:=(hzA.keep fun b hb=>hS.1.block b hb).up (B':=W.heap.size) hsz
    have h2n:=hn
    clear hb
    refine ⟨?_⟩
    simp only [pfs] at hK⊢
    (try simp only [q1,e0] at hK)
    have HC:=H3.out S3 W hs3 hz3 (hS.1)
    simp only [q1,e0]
    go_simp
    go_at_call 10
    refine HC.mono ?_
    clear HC
    rintro e w3 ⟨T4,rfl,hA3,hb3⟩
    try dsimp only
    try simp only [Act.put,List.setIfInBounds_toArray,List.set_cons_zero,List.set_cons_succ]
    refine hK.out _ _ ⟨⟨hS.1.trans (hb3.mono hS.1.size),by simpa using hS.2⟩,⟨fun hl=>let ⟨S,a,b⟩:=(h0.out hl.b);⟨S,a,fun h=>absurd (Lst.self (by rw [hS.2];omega)) h⟩⟩,h1.k,⟨fun _=>⟨T4,_,_,rfl,hA3,hS.1.size,Nat.le_refl _,fun h=>(match h6.out h.b with|⟨g,e,_,h,_⟩=>⟨g,e,fun h8=>absurd h (by omega)⟩)⟩⟩,⟨fun hl=>absurd (h3.out hl.b).1 h2n⟩,⟨fun hl=>absurd (h4.out hl.b).1 h2n⟩,⟨fun hl=>absurd (h5.out hl.b).1 h2n⟩,⟨fun hl=>let ⟨g,e,h3,h4,h5⟩:=(h6.out hl.b);⟨g,e,h3,Nat.lt_of_lt_of_le h4 hb3.size,fun h=>(hb3.block _ h4).trans (h5 fun h2=>h h2.fwd)⟩⟩,⟨fun hl=>absurd (h7.out hl.b).1 h2n⟩,h8.m⟩
   refine StepsL.c 4 [2] (fun l f W hR hn hb K Q2 hK=>?_) ?_
   ·obtain ⟨hS,h0,h1,h2,h3,h4,h5,h6,h7,h8⟩:=hR
    have q2:=h2.out (hb 2 (by simp))
    have hb2:=hb 2 (by simp)
    have L2:=hb2
    obtain ⟨T4,a2,b2,e2,_⟩:=q2
    clear hb
    refine ⟨?_⟩
    simp only [pfs] at hK⊢
    (try simp only [e2] at hK)
    simp only [e2]
    go_simp
    refine hK.out _ _ ⟨⟨hS.1,by simpa using hS.2⟩,⟨fun hl=>let ⟨S,a,b⟩:=(h0.out hl.b);⟨S,a,fun h=>b fun h2=>h h2.fwd⟩⟩,h1.k,⟨fun hl=>let ⟨T4,a,b,e,hA,h3,h4,h5⟩:=(h2.out hl.b);⟨T4,a,b,e,hA,h3,h4,fun h=>h5 h.b⟩⟩,⟨fun _=>⟨L2.fwd,e2.symm⟩⟩,h4.m,h5.m,⟨fun hl=>let ⟨g,e,h3,h4,h5⟩:=(h6.out hl.b);⟨g,e,h3,h4,fun h=>h5 fun h2=>h h2.fwd⟩⟩,h7.m,h8.m⟩
   refine StepsL.c 5 [3] (fun l f W hR hn hb K Q2 hK=>?_) ?_
   ·obtain ⟨hS,h0,h1,h2,h3,h4,h5,h6,h7,h8⟩:=hR
    have q3:=h3.out (hb 3 (by simp))
    obtain ⟨L2,e3⟩:=q3
    obtain ⟨T4,a2,b2,e2,_⟩:=h2.out L2
    rw [e2] at e3
    clear hb
    refine ⟨?_⟩
    simp only [pfs] at hK⊢
    (try simp only [e3,e2] at hK)
    simp only [e3]
    go_simp
    refine hK.out _ _ ⟨⟨hS.1,by simpa using hS.2⟩,⟨fun hl=>let ⟨S,a,b⟩:=(h0.out hl.b);⟨S,a,fun h=>b fun h2=>h h2.fwd⟩⟩,h1.k,⟨fun hl=>let ⟨T4,a,b,e,hA,h3,h4,h5⟩:=(h2.out hl.b);⟨T4,a,b,e,hA,h3,h4,fun h=>h5 h.b⟩⟩,h3.m,⟨fun _=>⟨L2.fwd,_,e2⟩⟩,h5.m,⟨fun hl=>let ⟨g,e,h3,h4,h5⟩:=(h6.out hl.b);⟨g,e,h3,h4,fun h=>h5 fun h2=>h h2.fwd⟩⟩,⟨fun hl=>absurd (h7.out hl.b).2.1 hn⟩,h8.m⟩
   refine StepsL.c 6 [3] (fun l f W hR hn hb K Q2 hK=>?_) ?_
   ·obtain ⟨hS,h0,h1,h2,h3,h4,h5,h6,h7,h8⟩:=hR
    have q3:=h3.out (hb 3 (by simp))
    obtain ⟨L2,e3⟩:=q3
    obtain ⟨T4,a2,b2,e2,_⟩:=h2.out L2
    rw [e2] at e3
    clear hb
    refine ⟨?_⟩
    simp only [pfs] at hK⊢
    (try simp only [e3,e2] at hK)
    simp only [e3]
    go_simp
    refine hK.out _ _ ⟨⟨hS.1,by simpa using hS.2⟩,⟨fun hl=>let ⟨S,a,b⟩:=(h0.out hl.b);⟨S,a,fun h=>b fun h2=>h h2.fwd⟩⟩,h1.k,⟨fun hl=>let ⟨T4,a,b,e,hA,h3,h4,h5⟩:=(h2.out hl.b);⟨T4,a,b,e,hA,h3,h4,fun h=>h5 h.b⟩⟩,h3.m,h4.m,⟨fun _=>⟨L2.fwd,_,e2⟩⟩,⟨fun hl=>let ⟨g,e,h3,h4,h5⟩:=(h6.out hl.b);⟨g,e,h3,h4,fun h=>h5 fun h2=>h h2.fwd⟩⟩,h7.m,⟨fun hl=>absurd (h8.out hl.b).1 hn⟩⟩
   refine StepsL.c 7 [] (fun l f W hR hn hb K Q2 hK=>?_) ?_
   ·obtain ⟨hS,h0,h1,h2,h3,h4,h5,h6,h7,h8⟩:=hR
    clear hb
    refine ⟨?_⟩
    simp only [pfs] at hK⊢
    go_simp
    refine hK.out _ _ ⟨⟨Below.alloc hS.1 hS.1.size _,by simpa using hS.2⟩,⟨fun hl=>let ⟨S,a,b⟩:=(h0.out hl.b);⟨S,a,fun h=>(b fun h2=>h h2.fwd).next (Nat.le_refl _) (Below.alloc (Below.refl _ _) (Nat.le_refl _) _)|>.up (by simp)⟩⟩,h1.k,⟨fun hl=>let ⟨T4,a,b,e,hA,h3,h4,h5⟩:=(h2.out hl.b);⟨T4,a,b,e,hA.keep fun b hb=>heap_alloc_old _ _ (Nat.lt_of_lt_of_le hb.2 h4),h3,by simp;omega,fun _=>⟨W.heap.size,rfl,fun h8=>by omega⟩⟩⟩,h3.m,h4.m,h5.m,⟨fun _=>⟨W.heap.size,rfl,hS.1.size,by simp,fun _=>heap_alloc_new _ _⟩⟩,⟨fun hl=>absurd (h7.out hl.b).2.2.1 hn⟩,h8.m⟩
   refine StepsL.c 8 [6,4,2,0,1,2,3,4,6] (fun l f W hR hn hb K Q2 hK=>?_) ?_
   ·obtain ⟨hS,h0,h1,h2,h3,h4,h5,h6,h7,h8⟩:=hR
    have q0:=h0.out (hb 0 (by simp))
    have q1:=h1.out (hb 1 (by simp))
    have q2:=h2.out (hb 2 (by simp))
    have q3:=h3.out (hb 3 (by simp))
    have q4:=h4.out (hb 4 (by simp))
    have q6:=h6.out (hb 6 (by simp))
    have hb4:=hb 4 (by simp)
    have hb6:=hb 6 (by simp)
    obtain ⟨L2,_,e4⟩:=q4
    obtain ⟨g9,e9,hg9,hz9,hx9⟩:=q6
    have hx9:=hx9 hn
    have L4:=hb4
    have L6:=hb6
    obtain ⟨T4,a2,b2,e2,_,_,_,hne⟩:=h2.out L2
    obtain ⟨g8,e8,hne⟩:=hne L6
    rw [e9] at e8
    injection e8 with e8
    injection e8 with e8
    injection e8 with e8
    subst e8
    have e5:=e2.symm.trans e4
    injection e5 with e5
    injection e5 with e5
    simp only [List.cons.injEq,and_true] at e5
    obtain ⟨e6,-⟩:=e5
    replace e6:=e6.symm
    have h2n:=h2
    clear e2 e4 q3 h2
    clear hb
    refine ⟨?_⟩
    simp only [pfs] at hK⊢
    (try simp only [q1,e6,e9] at hK)
    obtain ⟨cX,fX,zX⟩:=blk hx9
    simp only [e6,e9]
    go_simp
    have h2:=h2n
    refine hK.out undef _ ⟨⟨dom_below hS.1 hg9,by simpa using hS.2⟩,⟨fun hl=>let ⟨S,a,b⟩:=(h0.out hl.b);⟨S,a,fun h=>absurd L2.fwd h⟩⟩,h1.k,⟨fun hl=>let ⟨T4,a,b,e,hA,h3,h4,h5⟩:=(h2.out hl.b);⟨T4,a,b,e,hA.keep fun b hb=>dom_far (fun e8=>(match h5 L6 with|⟨g7,e7,hne7⟩=>by rw [e9] at e7;injection e7 with e7;injection e7 with e7;injection e7 with e7;subst e7;subst e8;exact hne7 hb)),h3,by simpa using h4,fun h=>h5 h.b⟩⟩,h3.m,h4.m,h5.m,⟨fun hl=>let ⟨g,e,h3,h4,h5⟩:=(h6.out hl.b);⟨g,e,h3,by simpa using h4,fun h=>absurd (Lst.self (by rw [hS.2];omega)) h⟩⟩,⟨fun _=>⟨L2.fwd,L4.fwd,L6.fwd,_,_,e9,e6,by simpa using hz9,dom_set hx9⟩⟩,h8.m⟩
   refine StepsL.c 9 [5,7,0,1,2,3,4,5,6,7] (fun l f W hR hn hb K Q2 hK=>?_) ?_
   ·obtain ⟨hS,h0,h1,h2,h3,h4,h5,h6,h7,h8⟩:=hR
    have q0:=h0.out (hb 0 (by simp))
    have q1:=h1.out (hb 1 (by simp))
    have q2:=h2.out (hb 2 (by simp))
    have q3:=h3.out (hb 3 (by simp))
    have q4:=h4.out (hb 4 (by simp))
    have q5:=h5.out (hb 5 (by simp))
    have q6:=h6.out (hb 6 (by simp))
    have q7:=h7.out (hb 7 (by simp))
    have hb5:=hb 5 (by simp)
    obtain ⟨L2,_,e4⟩:=q5
    obtain ⟨T4,a2,b2,e2,_⟩:=h2.out L2
    have e5:=e2.symm.trans e4
    injection e5 with e5
    injection e5 with e5
    simp only [List.cons.injEq,and_true] at e5
    obtain ⟨-,e6⟩:=e5
    replace e6:=e6.symm
    have L5:=hb5
    clear e2 e4 q3 q7
    clear hb
    refine ⟨?_⟩
    simp only [pfs] at hK⊢
    (try simp only [q1,e6] at hK)
    simp only [e6]
    go_simp
    refine hK.out _ _ ⟨⟨hS.1,by simpa using hS.2⟩,⟨fun hl=>let ⟨S,a,b⟩:=(h0.out hl.b);⟨S,a,fun h=>b fun h2=>h h2.fwd⟩⟩,h1.k,⟨fun hl=>let ⟨T4,a,b,e,hA,h3,h4,h5⟩:=(h2.out hl.b);⟨T4,a,b,e,hA,h3,h4,fun h=>h5 h.b⟩⟩,h3.m,h4.m,h5.m,⟨fun hl=>let ⟨g,e,h3,h4,h5⟩:=(h6.out hl.b);⟨g,e,h3,h4,fun h=>h5 fun h2=>h h2.fwd⟩⟩,h7.m,⟨fun _=>⟨L5.fwd,e6.symm⟩⟩⟩
   exact StepsL.nil
  ·intro l f W hR hall
   obtain ⟨hS,h0,h1,h2,h3,h4,h5,h6,h7,h8⟩:=hR
   have q0:=h0.out (hall 0 (by decide))
   have q1:=h1.out (hall 1 (by decide))
   have q2:=h2.out (hall 2 (by decide))
   have q3:=h3.out (hall 3 (by decide))
   have q4:=h4.out (hall 4 (by decide))
   have q5:=h5.out (hall 5 (by decide))
   have q6:=h6.out (hall 6 (by decide))
   have q7:=h7.out (hall 7 (by decide))
   have q8:=h8.out (hall 8 (by decide))
   clear h0 h1 h2 h3 h4 h5 h6 h7 h8
   obtain ⟨T4,a2,b2,e2,hA9,ha2,hb2,_⟩:=q2
   obtain ⟨_,x0,e4⟩:=q4
   obtain ⟨_,y0,e5⟩:=q5
   obtain ⟨_,_,_,g9,cs9,e9,e6,hg9,hx9⟩:=q7
   obtain ⟨g8,e8,hl9,_,_⟩:=q6
   rw [e9] at e8
   injection e8 with e8
   injection e8 with e8
   injection e8 with e8
   subst e8
   rw [e2] at e4 e5
   rw [e6] at e4
   simp only [Value.tuple.injEq,Array.mk.injEq,List.cons.injEq,and_true,Value.agg.injEq] at e4 e5
   obtain ⟨e4,-⟩:=e4
   subst e4
   have r8:=q8.2.trans e5.2.symm
   have hb1:=hS.1
   simp only [putF,Act.put,List.setIfInBounds_toArray,List.set_cons_zero,List.set_cons_succ,e9,r8]
   have hA9:=hA9.mono fun b hb=>(Nat.lt_of_lt_of_le hb.2 hb2:Low W.heap.size b)
   clear q0 q1 q3 q8 e2 e5 e6 e9 r8 hall hS ha2 hb2
   obtain ⟨Wc,rfl⟩:∃X,X=W:=⟨_,rfl⟩
   have hwb:Below w.heap.size w Wc:=hwa.trans (hb1.mono (by omega))
   have hzb:w.heap.size+1+1 < Wc.heap.size:=by have:=hb1.size;omega
   have kzb:=(hb1.block _ hza).trans kz_
   have hzB:=(hzA.keep fun b hb=>hb1.block b hb).up (B':=Wc.heap.size) hb1.size
   have hD9:=(hD9.out.keep fun b hb=>hb1.block b hb).up (B':=Wc.heap.size) hb1.size
   replace hD9:=zH hD9
   clear hwa kz_ hza hzA hb1
   obtain ⟨hwa,kz_,hza,hzA⟩:=(⟨hwb,kzb,hzb,hzB⟩:_∧_∧_∧_)
   clear hwb kzb hzb hzB
   have kd4:=hx9
   have hT4:=hA9
   have hg4:=hg9
   obtain ⟨g4,rfl⟩:∃x,x=g9:=⟨_,rfl⟩
   clear hx9 hA9 hg9 hl9
   replace hT4:=zH hT4
   have H4:=zH (fun S W (h:TCfg.At (Low W.heap.size) W oneCfg S) (hz:TScr.At (Low W.heap.size) W exS1 ⟨A0,1,none,0⟩) (_:Below Wc.heap.size Wc W)=>apOnly1 S A0 W h hz)
   clear H3
   go_upto_region 4 with (fail)
   refine wp_region_inv [25,26,27,24,28,29,6,7] (fun l f W=>(Below Wc.heap.size Wc W∧l.size=9)∧Fa l 0 (∃S,f 25= .agg #[.int .i64 oneCfg.sets,.int .i64 oneCfg.ways,.int .i64 oneCfg.doms,.int .i64 oneCfg.pad,.int .i64 oneCfg.quantum,.slice S.a0 oneCfg.slots.length S.n0,.slice S.a1 oneCfg.owners.length S.n1,.slice S.a2 oneCfg.chans.length S.n2,.slice S.a3 oneCfg.tasks.length S.n3]∧(¬ Lst l 2→TCfg.At (Low W.heap.size) W oneCfg S))∧Fa l 1 (f 26= .agg #[.slice A0 1 1,.slice none 0 0,.int .i64 1])∧Fa l 2 (∃Z6 a b,f 27= .tuple #[.agg #[.slice Z6.a0 1 Z6.n0,.slice Z6.a1 0 Z6.n1,.int .i64 1],.int .i64 0]∧TScr.At (Rng a b) W exS1 Z6∧Wc.heap.size≤a∧b≤W.heap.size∧(Lst l 6→∃g,f 6= .pointer (some ⟨g,0,none⟩)∧¬ (a≤g∧g < b)))∧Fa l 3 (Lst l 2∧f 24=f 27)∧Fa l 4 (Lst l 2∧∃b,f 27= .tuple #[f 28,b])∧Fa l 5 (Lst l 2∧∃a,f 27= .tuple #[a,f 29])∧Fa l 6 (∃g,f 6= .pointer (some ⟨g,0,none⟩)∧Wc.heap.size≤g∧g < W.heap.size∧(¬ Lst l 7→W.heap[g]?=some (.cells #[.slice none 0 0,.slice none 0 0,.int .i64 0] 31)))∧Fa l 7 (Lst l 2∧Lst l 4∧Lst l 6∧∃g cs,f 6= .pointer (some ⟨g,0,none⟩)∧f 28= .agg cs∧g < W.heap.size∧W.heap[g]?=some (.cells cs 31))∧Fa l 8 (Lst l 5∧f 7=f 29)) (by kernel_rfl) (by decide) (by kernel_rfl) (by intro s hs;simp at hs⊢;omega) ?_ ?_ ?_
   ·intro l hz hl
    exact ⟨⟨(Below.refl _ _).drew,hz⟩,.no (hl 0),.no (hl 1),.no (hl 2),.no (hl 3),.no (hl 4),.no (hl 5),.no (hl 6),.no (hl 7),.no (hl 8)⟩
   ·refine StepsL.c 1 [] (fun l f W hR hn hb K Q2 hK=>?_) ?_
    ·obtain ⟨hS,h0,h1,h2,h3,h4,h5,h6,h7,h8⟩:=hR
     clear hb
     refine ⟨?_⟩
     simp only [pfs] at hK⊢
     have HC:=H0.out W
     go_simp
     go_at_call 12
     refine HC.mono ?_
     clear HC
     rintro e w3 ⟨S3,rfl,hs3,hb3⟩
     try dsimp only
     try simp only [Act.put,List.setIfInBounds_toArray,List.set_cons_zero,List.set_cons_succ]
     refine hK.out _ _ ⟨⟨hS.1.trans (hb3.mono hS.1.size),by simpa using hS.2⟩,⟨fun _=>⟨S3,rfl,fun _=>hs3.rng (Nat.le_refl _)⟩⟩,h1.k,⟨fun hl=>let ⟨Z6,a,b,e,hA,h3,h4,h5⟩:=(h2.out hl.b);⟨Z6,a,b,e,hA.keep fun b hb=>hb3.block b (Nat.lt_of_lt_of_le hb.2 h4),h3,Nat.le_trans h4 hb3.size,fun h=>h5 h.b⟩⟩,h3.m,h4.m,h5.m,⟨fun hl=>let ⟨g,e,h3,h4,h5⟩:=(h6.out hl.b);⟨g,e,h3,Nat.lt_of_lt_of_le h4 hb3.size,fun h=>(hb3.block _ h4).trans (h5 fun h2=>h h2.fwd)⟩⟩,⟨fun hl=>let ⟨a,b,c,g,cs,e,e4,h4,h⟩:=(h7.out hl.b);⟨a.fwd,b.fwd,c.fwd,g,cs,e,e4,Nat.lt_of_lt_of_le h4 hb3.size,(hb3.block _ h4).trans h⟩⟩,h8.m⟩
    refine StepsL.c 2 [] (fun l f W hR hn hb K Q2 hK=>?_) ?_
    ·obtain ⟨hS,h0,h1,h2,h3,h4,h5,h6,h7,h8⟩:=hR
     clear hb
     refine ⟨?_⟩
     simp only [pfs] at hK⊢
     have hbx:=(hS.1.block _ hza).trans kz_
     obtain ⟨cX,fX,zX⟩:=blk hbx
     go_simp
     refine hK.out _ _ ⟨⟨hS.1,by simpa using hS.2⟩,⟨fun hl=>let ⟨S,a,b⟩:=(h0.out hl.b);⟨S,a,fun h=>b fun h2=>h h2.fwd⟩⟩,⟨fun _=>rfl⟩,⟨fun hl=>let ⟨Z6,a,b,e,hA,h3,h4,h5⟩:=(h2.out hl.b);⟨Z6,a,b,e,hA,h3,h4,fun h=>h5 h.b⟩⟩,h3.m,h4.m,h5.m,⟨fun hl=>let ⟨g,e,h3,h4,h5⟩:=(h6.out hl.b);⟨g,e,h3,h4,fun h=>h5 fun h2=>h h2.fwd⟩⟩,h7.m,h8.m⟩
    refine StepsL.c 3 [0,1,0] (fun l f W hR hn hb K Q2 hK=>?_) ?_
    ·obtain ⟨hS,h0,h1,h2,h3,h4,h5,h6,h7,h8⟩:=hR
     have q0:=h0.out (hb 0 (by simp))
     have q1:=h1.out (hb 1 (by simp))
     obtain ⟨S3,e0,hs3⟩:=q0
     have hs3:=hs3 hn
     have hsz:=hS.1.size
     have hz3:=(hzA.keep fun b hb=>hS.1.block b hb).up (B':=W.heap.size) hsz
     have h2n:=hn
     clear hb
     refine ⟨?_⟩
     simp only [pfs] at hK⊢
     (try simp only [q1,e0] at hK)
     have HC:=H4.out S3 W hs3 hz3 (hS.1)
     simp only [q1,e0]
     go_simp
     go_at_call 13
     refine HC.mono ?_
     clear HC
     rintro e w3 ⟨Z6,rfl,hA3,hb3⟩
     try dsimp only
     try simp only [Act.put,List.setIfInBounds_toArray,List.set_cons_zero,List.set_cons_succ]
     refine hK.out _ _ ⟨⟨hS.1.trans (hb3.mono hS.1.size),by simpa using hS.2⟩,⟨fun hl=>let ⟨S,a,b⟩:=(h0.out hl.b);⟨S,a,fun h=>absurd (Lst.self (by rw [hS.2];omega)) h⟩⟩,h1.k,⟨fun _=>⟨Z6,_,_,rfl,hA3,hS.1.size,Nat.le_refl _,fun h=>(match h6.out h.b with|⟨g,e,_,h,_⟩=>⟨g,e,fun h8=>absurd h (by omega)⟩)⟩⟩,⟨fun hl=>absurd (h3.out hl.b).1 h2n⟩,⟨fun hl=>absurd (h4.out hl.b).1 h2n⟩,⟨fun hl=>absurd (h5.out hl.b).1 h2n⟩,⟨fun hl=>let ⟨g,e,h3,h4,h5⟩:=(h6.out hl.b);⟨g,e,h3,Nat.lt_of_lt_of_le h4 hb3.size,fun h=>(hb3.block _ h4).trans (h5 fun h2=>h h2.fwd)⟩⟩,⟨fun hl=>absurd (h7.out hl.b).1 h2n⟩,h8.m⟩
    refine StepsL.c 4 [2] (fun l f W hR hn hb K Q2 hK=>?_) ?_
    ·obtain ⟨hS,h0,h1,h2,h3,h4,h5,h6,h7,h8⟩:=hR
     have q2:=h2.out (hb 2 (by simp))
     have hb2:=hb 2 (by simp)
     have L2:=hb2
     obtain ⟨Z6,a2,b2,e2,_⟩:=q2
     clear hb
     refine ⟨?_⟩
     simp only [pfs] at hK⊢
     (try simp only [e2] at hK)
     simp only [e2]
     go_simp
     refine hK.out _ _ ⟨⟨hS.1,by simpa using hS.2⟩,⟨fun hl=>let ⟨S,a,b⟩:=(h0.out hl.b);⟨S,a,fun h=>b fun h2=>h h2.fwd⟩⟩,h1.k,⟨fun hl=>let ⟨Z6,a,b,e,hA,h3,h4,h5⟩:=(h2.out hl.b);⟨Z6,a,b,e,hA,h3,h4,fun h=>h5 h.b⟩⟩,⟨fun _=>⟨L2.fwd,e2.symm⟩⟩,h4.m,h5.m,⟨fun hl=>let ⟨g,e,h3,h4,h5⟩:=(h6.out hl.b);⟨g,e,h3,h4,fun h=>h5 fun h2=>h h2.fwd⟩⟩,h7.m,h8.m⟩
    refine StepsL.c 5 [3] (fun l f W hR hn hb K Q2 hK=>?_) ?_
    ·obtain ⟨hS,h0,h1,h2,h3,h4,h5,h6,h7,h8⟩:=hR
     have q3:=h3.out (hb 3 (by simp))
     obtain ⟨L2,e3⟩:=q3
     obtain ⟨Z6,a2,b2,e2,_⟩:=h2.out L2
     rw [e2] at e3
     clear hb
     refine ⟨?_⟩
     simp only [pfs] at hK⊢
     (try simp only [e3,e2] at hK)
     simp only [e3]
     go_simp
     refine hK.out _ _ ⟨⟨hS.1,by simpa using hS.2⟩,⟨fun hl=>let ⟨S,a,b⟩:=(h0.out hl.b);⟨S,a,fun h=>b fun h2=>h h2.fwd⟩⟩,h1.k,⟨fun hl=>let ⟨Z6,a,b,e,hA,h3,h4,h5⟩:=(h2.out hl.b);⟨Z6,a,b,e,hA,h3,h4,fun h=>h5 h.b⟩⟩,h3.m,⟨fun _=>⟨L2.fwd,_,e2⟩⟩,h5.m,⟨fun hl=>let ⟨g,e,h3,h4,h5⟩:=(h6.out hl.b);⟨g,e,h3,h4,fun h=>h5 fun h2=>h h2.fwd⟩⟩,⟨fun hl=>absurd (h7.out hl.b).2.1 hn⟩,h8.m⟩
    refine StepsL.c 6 [3] (fun l f W hR hn hb K Q2 hK=>?_) ?_
    ·obtain ⟨hS,h0,h1,h2,h3,h4,h5,h6,h7,h8⟩:=hR
     have q3:=h3.out (hb 3 (by simp))
     obtain ⟨L2,e3⟩:=q3
     obtain ⟨Z6,a2,b2,e2,_⟩:=h2.out L2
     rw [e2] at e3
     clear hb
     refine ⟨?_⟩
     simp only [pfs] at hK⊢
     (try simp only [e3,e2] at hK)
     simp only [e3]
     go_simp
     refine hK.out _ _ ⟨⟨hS.1,by simpa using hS.2⟩,⟨fun hl=>let ⟨S,a,b⟩:=(h0.out hl.b);⟨S,a,fun h=>b fun h2=>h h2.fwd⟩⟩,h1.k,⟨fun hl=>let ⟨Z6,a,b,e,hA,h3,h4,h5⟩:=(h2.out hl.b);⟨Z6,a,b,e,hA,h3,h4,fun h=>h5 h.b⟩⟩,h3.m,h4.m,⟨fun _=>⟨L2.fwd,_,e2⟩⟩,⟨fun hl=>let ⟨g,e,h3,h4,h5⟩:=(h6.out hl.b);⟨g,e,h3,h4,fun h=>h5 fun h2=>h h2.fwd⟩⟩,h7.m,⟨fun hl=>absurd (h8.out hl.b).1 hn⟩⟩
    refine StepsL.c 7 [] (fun l f W hR hn hb K Q2 hK=>?_) ?_
    ·obtain ⟨hS,h0,h1,h2,h3,h4,h5,h6,h7,h8⟩:=hR
     clear hb
     refine ⟨?_⟩
     simp only [pfs] at hK⊢
     go_simp
     refine hK.out _ _ ⟨⟨Below.alloc hS.1 hS.1.size _,by simpa using hS.2⟩,⟨fun hl=>let ⟨S,a,b⟩:=(h0.out hl.b);⟨S,a,fun h=>(b fun h2=>h h2.fwd).next (Nat.le_refl _) (Below.alloc (Below.refl _ _) (Nat.le_refl _) _)|>.up (by simp)⟩⟩,h1.k,⟨fun hl=>let ⟨Z6,a,b,e,hA,h3,h4,h5⟩:=(h2.out hl.b);⟨Z6,a,b,e,hA.keep fun b hb=>heap_alloc_old _ _ (Nat.lt_of_lt_of_le hb.2 h4),h3,by simp;omega,fun _=>⟨W.heap.size,rfl,fun h8=>by omega⟩⟩⟩,h3.m,h4.m,h5.m,⟨fun _=>⟨W.heap.size,rfl,hS.1.size,by simp,fun _=>heap_alloc_new _ _⟩⟩,⟨fun hl=>absurd (h7.out hl.b).2.2.1 hn⟩,h8.m⟩
    refine StepsL.c 8 [6,4,2,0,1,2,3,4,6] (fun l f W hR hn hb K Q2 hK=>?_) ?_
    ·obtain ⟨hS,h0,h1,h2,h3,h4,h5,h6,h7,h8⟩:=hR
     have q0:=h0.out (hb 0 (by simp))
     have q1:=h1.out (hb 1 (by simp))
     have q2:=h2.out (hb 2 (by simp))
     have q3:=h3.out (hb 3 (by simp))
     have q4:=h4.out (hb 4 (by simp))
     have q6:=h6.out (hb 6 (by simp))
     have hb4:=hb 4 (by simp)
     have hb6:=hb 6 (by simp)
     obtain ⟨L2,_,e4⟩:=q4
     obtain ⟨g9,e9,hg9,hz9,hx9⟩:=q6
     have hx9:=hx9 hn
     have L4:=hb4
     have L6:=hb6
     obtain ⟨Z6,a2,b2,e2,_,_,_,hne⟩:=h2.out L2
     obtain ⟨g8,e8,hne⟩:=hne L6
     rw [e9] at e8
     injection e8 with e8
     injection e8 with e8
     injection e8 with e8
     subst e8
     have e5:=e2.symm.trans e4
     injection e5 with e5
     injection e5 with e5
     simp only [List.cons.injEq,and_true] at e5
     obtain ⟨e6,-⟩:=e5
     replace e6:=e6.symm
     have h2n:=h2
     clear e2 e4 q3 h2
     clear hb
     refine ⟨?_⟩
     simp only [pfs] at hK⊢
     (try simp only [q1,e6,e9] at hK)
     obtain ⟨cX,fX,zX⟩:=blk hx9
     simp only [e6,e9]
     go_simp
     have h2:=h2n
     refine hK.out undef _ ⟨⟨scr_below hS.1 hg9,by simpa using hS.2⟩,⟨fun hl=>let ⟨S,a,b⟩:=(h0.out hl.b);⟨S,a,fun h=>absurd L2.fwd h⟩⟩,h1.k,⟨fun hl=>let ⟨Z6,a,b,e,hA,h3,h4,h5⟩:=(h2.out hl.b);⟨Z6,a,b,e,hA.keep fun b hb=>scr_far (fun e8=>(match h5 L6 with|⟨g7,e7,hne7⟩=>by rw [e9] at e7;injection e7 with e7;injection e7 with e7;injection e7 with e7;subst e7;subst e8;exact hne7 hb)),h3,by simpa using h4,fun h=>h5 h.b⟩⟩,h3.m,h4.m,h5.m,⟨fun hl=>let ⟨g,e,h3,h4,h5⟩:=(h6.out hl.b);⟨g,e,h3,by simpa using h4,fun h=>absurd (Lst.self (by rw [hS.2];omega)) h⟩⟩,⟨fun _=>⟨L2.fwd,L4.fwd,L6.fwd,_,_,e9,e6,by simpa using hz9,scr_set hx9⟩⟩,h8.m⟩
    refine StepsL.c 9 [5,7,0,1,2,3,4,5,6,7] (fun l f W hR hn hb K Q2 hK=>?_) ?_
    ·obtain ⟨hS,h0,h1,h2,h3,h4,h5,h6,h7,h8⟩:=hR
     have q0:=h0.out (hb 0 (by simp))
     have q1:=h1.out (hb 1 (by simp))
     have q2:=h2.out (hb 2 (by simp))
     have q3:=h3.out (hb 3 (by simp))
     have q4:=h4.out (hb 4 (by simp))
     have q5:=h5.out (hb 5 (by simp))
     have q6:=h6.out (hb 6 (by simp))
     have q7:=h7.out (hb 7 (by simp))
     have hb5:=hb 5 (by simp)
     obtain ⟨L2,_,e4⟩:=q5
     obtain ⟨Z6,a2,b2,e2,_⟩:=h2.out L2
     have e5:=e2.symm.trans e4
     injection e5 with e5
     injection e5 with e5
     simp only [List.cons.injEq,and_true] at e5
     obtain ⟨-,e6⟩:=e5
     replace e6:=e6.symm
     have L5:=hb5
     clear e2 e4 q3 q7
     clear hb
     refine ⟨?_⟩
     simp only [pfs] at hK⊢
     (try simp only [q1,e6] at hK)
     simp only [e6]
     go_simp
     refine hK.out _ _ ⟨⟨hS.1,by simpa using hS.2⟩,⟨fun hl=>let ⟨S,a,b⟩:=(h0.out hl.b);⟨S,a,fun h=>b fun h2=>h h2.fwd⟩⟩,h1.k,⟨fun hl=>let ⟨Z6,a,b,e,hA,h3,h4,h5⟩:=(h2.out hl.b);⟨Z6,a,b,e,hA,h3,h4,fun h=>h5 h.b⟩⟩,h3.m,h4.m,h5.m,⟨fun hl=>let ⟨g,e,h3,h4,h5⟩:=(h6.out hl.b);⟨g,e,h3,h4,fun h=>h5 fun h2=>h h2.fwd⟩⟩,h7.m,⟨fun _=>⟨L5.fwd,e6.symm⟩⟩⟩
    exact StepsL.nil
   ·intro l f W hR hall
    obtain ⟨hS,h0,h1,h2,h3,h4,h5,h6,h7,h8⟩:=hR
    have q0:=h0.out (hall 0 (by decide))
    have q1:=h1.out (hall 1 (by decide))
    have q2:=h2.out (hall 2 (by decide))
    have q3:=h3.out (hall 3 (by decide))
    have q4:=h4.out (hall 4 (by decide))
    have q5:=h5.out (hall 5 (by decide))
    have q6:=h6.out (hall 6 (by decide))
    have q7:=h7.out (hall 7 (by decide))
    have q8:=h8.out (hall 8 (by decide))
    clear h0 h1 h2 h3 h4 h5 h6 h7 h8
    obtain ⟨Z6,a2,b2,e2,hA9,ha2,hb2,_⟩:=q2
    obtain ⟨_,x0,e4⟩:=q4
    obtain ⟨_,y0,e5⟩:=q5
    obtain ⟨_,_,_,g9,cs9,e9,e6,hg9,hx9⟩:=q7
    obtain ⟨g8,e8,hl9,_,_⟩:=q6
    rw [e9] at e8
    injection e8 with e8
    injection e8 with e8
    injection e8 with e8
    subst e8
    rw [e2] at e4 e5
    rw [e6] at e4
    simp only [Value.tuple.injEq,Array.mk.injEq,List.cons.injEq,and_true,Value.agg.injEq] at e4 e5
    obtain ⟨e4,-⟩:=e4
    subst e4
    have r8:=q8.2.trans e5.2.symm
    have hb1:=hS.1
    simp only [putF,Act.put,List.setIfInBounds_toArray,List.set_cons_zero,List.set_cons_succ,e9,r8]
    have hA9:=hA9.mono fun b hb=>(Nat.lt_of_lt_of_le hb.2 hb2:Low W.heap.size b)
    clear q0 q1 q3 q8 e2 e5 e6 e9 r8 hall hS ha2 hb2
    obtain ⟨Wd,rfl⟩:∃X,X=W:=⟨_,rfl⟩
    have hwb:Below w.heap.size w Wd:=hwa.trans (hb1.mono (by omega))
    have hzb:w.heap.size+1+1 < Wd.heap.size:=by have:=hb1.size;omega
    have kzb:=(hb1.block _ hza).trans kz_
    have hzB:=(hzA.keep fun b hb=>hb1.block b hb).up (B':=Wd.heap.size) hb1.size
    have hD9:=(hD9.out.keep fun b hb=>hb1.block b hb).up (B':=Wd.heap.size) hb1.size
    replace hD9:=zH hD9
    have kd4:=(hb1.block _ hg4).trans kd4
    have hT4:=(hT4.out.keep fun b hb=>hb1.block b hb).up (B':=Wd.heap.size) hb1.size
    replace hT4:=zH hT4
    have hg4:=Nat.lt_of_lt_of_le hg4 hb1.size
    clear hwa kz_ hza hzA hb1
    obtain ⟨hwa,kz_,hza,hzA⟩:=(⟨hwb,kzb,hzb,hzB⟩:_∧_∧_∧_)
    clear hwb kzb hzb hzB
    have kx6:=hx9
    have hZ6:=hA9
    have hg6:=hg9
    obtain ⟨g6,rfl⟩:∃x,x=g9:=⟨_,rfl⟩
    clear hx9 hA9 hg9 hl9
    replace hZ6:=zH hZ6
    have hdn:=hdnx.out
    have hHD:=zH (fun T U W (hT:TDom.At (Low Wd.heap.size) Wd dd T) (hU:TDom.At (Low Wd.heap.size) Wd dd U) (h:Below Wd.heap.size Wd W)=>refSameDomain dd T U Wd.heap.size W h.size (hT.next (Nat.le_refl _) h) (hU.next (Nat.le_refl _) h))
    have hHS:=zH (fun W (h:Below Wd.heap.size Wd W)=>apSame1 A0 Z6 W ((hZ6.out.next (Nat.le_refl _) h).up h.size) ((hzA.next (Nat.le_refl _) h).up h.size))
    obtain ⟨b,o,T9,rfl,hI,k0,k1,k2,k3,k4,k5,k6,hT9⟩:=hD9.out.at_dom (k:=0) (by rw [show exDs.length=1 from ex_len];decide)
    rw [show nth exDs 0=dd from hdd.out] at k0 k1 k2 k3 k4 k5 k6 hT9
    simp only [Nat.zero_mul,Nat.add_zero] at k0 k1 k2 k3 k4 k5 k6
    have hHD:=zH (fun W h=>hHD.out T9 T4 W hT9 hT4.out h)
    clear hT9 hT4 hZ6 hzA hD9 H0 H4
    have hbw:b < Wd.heap.size:=hI
    rw [hdn] at k2 kd4
    obtain ⟨cz,fz,zz⟩:=blk kz_
    obtain ⟨cd,fd,zd⟩:=blk kd4
    obtain ⟨cs,fs,zs⟩:=blk kx6
    clear hI kz_ kd4 kx6
    replace hHD:=hHD.out
    rw [hdn] at hHD
    replace hHD:=zH hHD
    clear hdn
    go_upto_region 5 with (fail)
    go_region_held3 (fun w'=>(∀oo,w'.cell? ⟨w.heap.size+1+1,oo,none⟩=#[.slice A0 1 1,.slice none 0 0,.int .i64 1][oo]?)∧(∀oo,w'.cell? ⟨g4,oo,none⟩=#[.slice T4.a0 dd.jobs.length T4.n0,.slice T4.a1 dd.released.length T4.n1,.int .i64 1,.slice T4.a2 dd.ins.length T4.n2,.slice T4.a3 dd.taken.length T4.n3,.slice T4.a4 dd.outs.length T4.n4,.slice T4.a5 dd.events.length T4.n5][oo]?)∧(∀oo,w'.cell? ⟨g6,oo,none⟩=#[.slice Z6.a0 1 Z6.n0,.slice Z6.a1 0 Z6.n1,.int .i64 1][oo]?)∧w'.cell? ⟨b,o,none⟩=some (.slice T9.a0 dd.jobs.length T9.n0)∧w'.cell? ⟨b,o+1,none⟩=some (.slice T9.a1 dd.released.length T9.n1)∧w'.cell? ⟨b,o+2,none⟩=some (.int .i64 1)∧w'.cell? ⟨b,o+3,none⟩=some (.slice T9.a2 dd.ins.length T9.n2)∧w'.cell? ⟨b,o+4,none⟩=some (.slice T9.a3 dd.taken.length T9.n3)∧w'.cell? ⟨b,o+5,none⟩=some (.slice T9.a4 dd.outs.length T9.n4)∧w'.cell? ⟨b,o+6,none⟩=some (.slice T9.a5 dd.events.length T9.n5))
     (((try dsimp only);(repeat' apply And.intro)<;>(first|exact fun oo=>(Below.cell (B:=Wd.heap.size) (w:=Wd) byB (by first|assumption|omega)).trans (cz oo)|exact fun oo=>(Below.cell (B:=Wd.heap.size) (w:=Wd) byB (by first|assumption|omega)).trans (cd oo)|exact fun oo=>(Below.cell (B:=Wd.heap.size) (w:=Wd) byB (by first|assumption|omega)).trans (cs oo)|exact (Below.cell (B:=Wd.heap.size) (w:=Wd) byB (by first|assumption|omega)).trans (by assumption)|go_keep|(simp [go_sem, *];done))))
     (first|(go_at_call 11;refine (hHD.out _ byB).mono ?_;rintro e w8 ⟨rfl,hb_w8⟩;refine armT w hb_w8 (fun h_w8 s_w8 t_w8 hb_w8=>?_);(try simp at t_w8))|(go_at_call 14;refine (hHS.out _ byB).mono ?_;rintro e w9 ⟨rfl,hb_w9⟩;refine armT w hb_w9 (fun h_w9 s_w9 t_w9 hb_w9=>?_);(try simp at t_w9)))
    all_goals
     go_wp2_with fail
     go_ret
     exact ⟨rfl,byB⟩
end Go.Proofs.YtinlmkhlgclbfabDoor
