/- LawExB -/
import Derived.Test.YtinlmkhlgclbfabDoorAs46
namespace Go.Proofs.YtinlmkhlgclbfabDoor
open Go.RowKit
set_option maxRecDepth 100000
set_option maxHeartbeats 8000000
def exS1:TScr:=⟨[[⟨6,0,0⟩]],[],1⟩
def exDs:List TDom:=execDs oneCfg exS1
theorem ex_check:checkScript oneCfg exS1=0:=by decide+kernel
theorem ex_most:execMost oneCfg exS1=2:=by decide+kernel
theorem ex_len:(execDs oneCfg exS1).length=1:=by decide+kernel
theorem ex_next:(nth exDs 0).next=1:=by decide+kernel
theorem ex_ready:readyErr oneCfg exS1 0=0:=by decide+kernel
def exTr:List UInt8:=[48,32,49,32,48,32,48,10,48,32,50,32,48,32,48,10,48,32,51,32,48,32,48,10,51,32,55,32,48,32,48,10,53,48]++[32,50,32,48,32,49,10,51,48,32,54,32,48,32,48,10,56,48,32,54,32,48,32,49,10,57,48,32,49,51,32,48,32,48,10]
theorem ex_trace:traceRes oneCfg exS1 0=exTr:=by decide+kernel
theorem ex_evs:(nth (machOf oneCfg exS1).ds (0:Int).toNat).events=[⟨0,1,0,0⟩,⟨0,2,0,0⟩,⟨0,3,0,0⟩,⟨3,7,0,0⟩,⟨50,2,0,1⟩,⟨30,6,0,0⟩,⟨80,6,0,1⟩,⟨90,13,0,0⟩]:=by decide+kernel
theorem exEvIn:readyErr oneCfg exS1 0=0→∀i,i < (nth (machOf oneCfg exS1).ds (0:Int).toNat).events.length→EvIn (nth (nth (machOf oneCfg exS1).ds (0:Int).toNat).events i):=by
 intro _
 rw [ex_evs]
 intro i hi
 have hi:i < 8:=hi
 have h:∀v∈([⟨0,1,0,0⟩,⟨0,2,0,0⟩,⟨0,3,0,0⟩,⟨3,7,0,0⟩,⟨50,2,0,1⟩,⟨30,6,0,0⟩,⟨80,6,0,1⟩,⟨90,13,0,0⟩]:List TEv),0≤v.t∧v.t < 100∧0≤v.kind∧v.kind < 100∧0≤v.a∧v.a < 100∧0≤v.b∧v.b < 100:=by decide
 have hm:=h _ (nth_mem (xs:=([⟨0,1,0,0⟩,⟨0,2,0,0⟩,⟨0,3,0,0⟩,⟨3,7,0,0⟩,⟨50,2,0,1⟩,⟨30,6,0,0⟩,⟨80,6,0,1⟩,⟨90,13,0,0⟩]:List TEv)) hi)
 exact ⟨⟨by omega,by omega⟩,⟨by omega,by omega⟩,⟨by omega,by omega⟩,⟨by omega,by omega⟩⟩
theorem sl_acts1 {I:Nat→Prop}{w:World}{g:Nat}{x:TAct}{A:Option Addr}{t:TypeId}(h:w.heap[g]?=some (.cells #[.slice A 1 1] t))(hs:Sl cAct I w A 1 [x])(hg:I g):Sl cAct.slice I w (some ⟨g,0,none⟩) 1 [[x]]:=by
 refine ⟨by simp,by unfold maxLen;omega,fun h=>(by cases h),fun i hi=>?_⟩
 obtain rfl:i=0:=by simp at hi;exact hi
 refine ⟨g,0,[.slice A 1 1],rfl,hg,⟨A,1,rfl,hs⟩,fun j u hu=>?_⟩
 simp only [Nat.zero_mul,Nat.zero_add]
 rw [(blk h).1]
 rw [← Array.getElem?_toList]
 exact hu
theorem exCheck1 (S:TCfgS)(A0:Option Addr)(w:World)(hs:TCfg.At (Low w.heap.size) w oneCfg S)(hz:TScr.At (Low w.heap.size) w exS1 ⟨A0,1,none,0⟩):
  Calls Tryd.prog 16 #[.agg #[.int .i64 oneCfg.sets,.int .i64 oneCfg.ways,.int .i64 oneCfg.doms,.int .i64 oneCfg.pad,.int .i64 oneCfg.quantum,.slice S.a0 oneCfg.slots.length S.n0,.slice S.a1 oneCfg.owners.length S.n1,.slice S.a2 oneCfg.chans.length S.n2,.slice S.a3 oneCfg.tasks.length S.n3],.agg #[.slice A0 1 1,.slice none 0 0,.int .i64 1]] w fun e w'=>e= .returned (.int .i64 0)∧Below w.heap.size w w':=by
 have h:=execCheck oneCfg S exS1 _ w.heap.size w (Nat.le_refl _) hs hz
 rw [ex_check] at h
 exact h
theorem exRun1 (S:TCfgS)(A0:Option Addr)(w:World)(hs:TCfg.At (Low w.heap.size) w oneCfg S)(hz:TScr.At (Low w.heap.size) w exS1 ⟨A0,1,none,0⟩):
  Calls Tryd.prog 7 #[.agg #[.int .i64 oneCfg.sets,.int .i64 oneCfg.ways,.int .i64 oneCfg.doms,.int .i64 oneCfg.pad,.int .i64 oneCfg.quantum,.slice S.a0 oneCfg.slots.length S.n0,.slice S.a1 oneCfg.owners.length S.n1,.slice S.a2 oneCfg.chans.length S.n2,.slice S.a3 oneCfg.tasks.length S.n3],.agg #[.slice A0 1 1,.slice none 0 0,.int .i64 1]] w fun e w'=>∃A n,e= .returned (.tuple #[.slice A 1 n,.int .i64 2,.int .i64 0])∧Sl cDom (Low w'.heap.size) w' A n exDs∧Below w.heap.size w w':=by
 have h:=execRun oneCfg S exS1 _ w.heap.size w (Nat.le_refl _) hs hz
 rw [ex_check,ex_most] at h
 refine h.mono ?_
 rintro e w' ⟨A,n,rfl,hO,hb⟩
 rw [ex_len]
 exact ⟨A,n,rfl,Sl.mono (DomsO.at hO) fun b hb=>hb.2,hb⟩
theorem exTrace1 (S:TCfgS)(A0:Option Addr)(w:World)(hs:TCfg.At (Low w.heap.size) w oneCfg S)(hz:TScr.At (Low w.heap.size) w exS1 ⟨A0,1,none,0⟩)(hp:PowTab w):
  Calls Tryd.prog 15 #[.agg #[.int .i64 oneCfg.sets,.int .i64 oneCfg.ways,.int .i64 oneCfg.doms,.int .i64 oneCfg.pad,.int .i64 oneCfg.quantum,.slice S.a0 oneCfg.slots.length S.n0,.slice S.a1 oneCfg.owners.length S.n1,.slice S.a2 oneCfg.chans.length S.n2,.slice S.a3 oneCfg.tasks.length S.n3],.agg #[.slice A0 1 1,.slice none 0 0,.int .i64 1],.int .i64 0] w fun e w'=>e= .returned (.tuple #[.string (bs exTr),.int .i64 0])∧Below w.heap.size w w':=by
 have h:=execTrace oneCfg S exS1 _ 0 exEvIn w.heap.size w (Nat.le_refl _) hs hz hp
 rw [ex_trace,ex_ready] at h
 exact h
theorem lawExecBegun (w:World)(hP:PowTab w):Calls Tryd.prog 6 #[] w fun en w'=>en= .returned (.bool true)∧Below w.heap.size w w':=by
 have H0:=zH lawOne
 go_enter Tryd.func6,Tryd.ntmps6
 go_upto_region 2 with (fail)
 generalize hWa:((w.alloc (.cells #[.int .i64 6,.int .i64 0,.int .i64 0] 52)).alloc (.cells #[.slice (some ⟨w.heap.size,0,none⟩) 1 1] 53)).alloc (.cells #[.slice (some ⟨w.heap.size+1,0,none⟩) 1 1,.slice none 0 0,.int .i64 1] 31)=Wa
 have kz_:Wa.heap[w.heap.size+1+1]?=some (.cells #[.slice (some ⟨w.heap.size+1,0,none⟩) 1 1,.slice none 0 0,.int .i64 1] 31):=by rw [← hWa];exact heapAt _ _ _ (by simp)
 have hza:w.heap.size+1+1 < Wa.heap.size:=(blk kz_).2.2
 have k0:Wa.heap[w.heap.size]?=some (.cells #[.int .i64 6,.int .i64 0,.int .i64 0] 52):=by rw [← hWa];exact (heap_alloc_old _ _ (by simp;omega)).trans ((heap_alloc_old _ _ (by simp)).trans (heap_alloc_new _ _))
 have k1:Wa.heap[w.heap.size+1]?=some (.cells #[.slice (some ⟨w.heap.size,0,none⟩) 1 1] 53):=by rw [← hWa];exact (heap_alloc_old _ _ (by simp)).trans (heapAt _ _ _ (by simp))
 have hwa:Below w.heap.size w Wa:=by rw [← hWa];exact byB
 have hzA:TScr.At (Low Wa.heap.size) Wa exS1 ⟨some ⟨w.heap.size+1,0,none⟩,1,none,0⟩:=⟨sl_acts1 k1 (sl_block (cs:=#[.int .i64 6,.int .i64 0,.int .i64 0]) k0 rfl (by show _ < _;omega) (Nat.le_refl _) (by simp [maxLen])) (by show _ < _;omega),Sl.empty _ _ _⟩
 clear hWa k0 k1
 generalize (some ⟨w.heap.size+1,0,none⟩:Option Addr)=A0 at*
 have H2:=zH (fun S W (h:TCfg.At (Low W.heap.size) W oneCfg S) (hz:TScr.At (Low W.heap.size) W exS1 ⟨A0,1,none,0⟩) (_:Below Wa.heap.size Wa W)=>exRun1 S A0 W h hz)
 have hPa:PowTab Wa:=hP.next hwa
 have H3:=zH (fun S W (h:TCfg.At (Low W.heap.size) W oneCfg S) (hz:TScr.At (Low W.heap.size) W exS1 ⟨A0,1,none,0⟩) (hb:Below Wa.heap.size Wa W)=>exTrace1 S A0 W h hz (hPa.next hb))
 have H4:=zH (fun S W (h:TCfg.At (Low W.heap.size) W oneCfg S) (hz:TScr.At (Low W.heap.size) W exS1 ⟨A0,1,none,0⟩) (_:Below Wa.heap.size Wa W)=>exCheck1 S A0 W h hz)
 clear hP hPa
 refine wp_region_inv [12,13,14,11,15,16,17,2,3,4] (fun l f W=>(Below Wa.heap.size Wa W∧l.size=10)∧Fa l 0 (∃S,f 12= .agg #[.int .i64 oneCfg.sets,.int .i64 oneCfg.ways,.int .i64 oneCfg.doms,.int .i64 oneCfg.pad,.int .i64 oneCfg.quantum,.slice S.a0 oneCfg.slots.length S.n0,.slice S.a1 oneCfg.owners.length S.n1,.slice S.a2 oneCfg.chans.length S.n2,.slice S.a3 oneCfg.tasks.length S.n3]∧(¬ Lst l 2→TCfg.At (Low W.heap.size) W oneCfg S))∧Fa l 1 (f 13= .agg #[.slice A0 1 1,.slice none 0 0,.int .i64 1])∧Fa l 2 (∃A n,f 14= .tuple #[.slice A 1 n,.int .i64 2,.int .i64 0]∧Sl cDom (Low W.heap.size) W A n exDs)∧Fa l 3 (Lst l 2∧f 11=f 14)∧Fa l 4 (Lst l 2∧∃b c,f 14= .tuple #[f 15,b,c])∧Fa l 5 (Lst l 2∧∃a c,f 14= .tuple #[a,f 16,c])∧Fa l 6 (Lst l 2∧∃a b,f 14= .tuple #[a,b,f 17])∧Fa l 7 (Lst l 4∧f 2=f 15)∧Fa l 8 (Lst l 5∧f 3=f 16)∧Fa l 9 (Lst l 6∧f 4=f 17)) (by kernel_rfl) (by decide) (by kernel_rfl) (by intro s hs;simp at hs⊢;omega) ?_ ?_ ?_
 ·intro l hz hl
  exact ⟨⟨(Below.refl _ _).drew,hz⟩,.no (hl 0),.no (hl 1),.no (hl 2),.no (hl 3),.no (hl 4),.no (hl 5),.no (hl 6),.no (hl 7),.no (hl 8),.no (hl 9)⟩
 ·refine StepsL.c 1 [] (fun l f W hR hn hb K Q2 hK=>?_) ?_
  ·obtain ⟨hS,h0,h1,h2,h3,h4,h5,h6,h7,h8,h9⟩:=hR
   clear hb
   refine ⟨?_⟩
   simp only [pfs] at hK⊢
   have HC:=H0.out W
   go_simp
   go_at_call 12
   refine HC.mono ?_
   clear HC
   rintro e w3 ⟨S3,rfl,hs3,hb3⟩
   try dsimp only
   try simp only [Act.put,List.setIfInBounds_toArray,List.set_cons_zero,List.set_cons_succ]
   refine hK.out _ _ ⟨⟨hS.1.trans (hb3.mono hS.1.size),by simpa using hS.2⟩,⟨fun _=>⟨S3,rfl,fun _=>hs3.rng (Nat.le_refl _)⟩⟩,h1.k,⟨fun hl=>let ⟨A,n,e,h⟩:=(h2.out hl.b);⟨A,n,e,(h.keep fun b hb=>hb3.block b hb).mono fun b hb=>Nat.lt_of_lt_of_le hb hb3.size⟩⟩,h3.m,h4.m,h5.m,h6.m,h7.m,h8.m,h9.m⟩
  refine StepsL.c 2 [] (fun l f W hR hn hb K Q2 hK=>?_) ?_
  ·obtain ⟨hS,h0,h1,h2,h3,h4,h5,h6,h7,h8,h9⟩:=hR
   clear hb
   refine ⟨?_⟩
   simp only [pfs] at hK⊢
   have hbx:=(hS.1.block _ hza).trans kz_
   obtain ⟨cX,fX,zX⟩:=blk hbx
   go_simp
   refine hK.out _ _ ⟨⟨hS.1,by simpa using hS.2⟩,⟨fun hl=>let ⟨S,a,b⟩:=(h0.out hl.b);⟨S,a,fun h=>b fun h2=>h h2.fwd⟩⟩,⟨fun _=>rfl⟩,h2.k,h3.m,h4.m,h5.m,h6.m,h7.m,h8.m,h9.m⟩
  refine StepsL.c 3 [0,1,0] (fun l f W hR hn hb K Q2 hK=>?_) ?_
  ·obtain ⟨hS,h0,h1,h2,h3,h4,h5,h6,h7,h8,h9⟩:=hR
   have q0:=h0.out (hb 0 (by simp))
   have q1:=h1.out (hb 1 (by simp))
   obtain ⟨S3,e0,hs3⟩:=q0
   have hs3:=hs3 hn
   have hsz:=hS.1.size
   have hz3:=(hzA.keep fun b hb=>hS.1.block b hb).up (B':=W.heap.size) hsz
   clear hb
   refine ⟨?_⟩
   simp only [pfs] at hK⊢
   (try simp only [q1,e0] at hK)
   have HC:=H2.out S3 W hs3 hz3 (hS.1)
   simp only [q1,e0]
   go_simp
   go_at_call 7
   refine HC.mono ?_
   clear HC
   rintro e w3 ⟨A9,n9,rfl,hD9,hb3⟩
   try dsimp only
   try simp only [Act.put,List.setIfInBounds_toArray,List.set_cons_zero,List.set_cons_succ]
   refine hK.out _ _ ⟨⟨hS.1.trans (hb3.mono hS.1.size),by simpa using hS.2⟩,⟨fun hl=>let ⟨S,a,b⟩:=(h0.out hl.b);⟨S,a,fun h=>absurd (Lst.self (by rw [hS.2];omega)) h⟩⟩,h1.k,⟨fun _=>⟨A9,n9,rfl,hD9⟩⟩,⟨fun hl=>absurd (h3.out hl.b).1 hn⟩,⟨fun hl=>absurd (h4.out hl.b).1 hn⟩,⟨fun hl=>absurd (h5.out hl.b).1 hn⟩,⟨fun hl=>absurd (h6.out hl.b).1 hn⟩,⟨fun hl=>absurd (h4.out (h7.out hl.b).1).1 hn⟩,⟨fun hl=>absurd (h5.out (h8.out hl.b).1).1 hn⟩,⟨fun hl=>absurd (h6.out (h9.out hl.b).1).1 hn⟩⟩
  refine StepsL.c 4 [2] (fun l f W hR hn hb K Q2 hK=>?_) ?_
  ·obtain ⟨hS,h0,h1,h2,h3,h4,h5,h6,h7,h8,h9⟩:=hR
   have q2:=h2.out (hb 2 (by simp))
   have hb2:=hb 2 (by simp)
   have L2:=hb2
   obtain ⟨A,n,e2,_⟩:=q2
   clear hb
   refine ⟨?_⟩
   simp only [pfs] at hK⊢
   (try simp only [e2] at hK)
   simp only [e2]
   go_simp
   refine hK.out _ _ ⟨⟨hS.1,by simpa using hS.2⟩,⟨fun hl=>let ⟨S,a,b⟩:=(h0.out hl.b);⟨S,a,fun h=>b fun h2=>h h2.fwd⟩⟩,h1.k,h2.k,⟨fun _=>⟨L2.fwd,e2.symm⟩⟩,h4.m,h5.m,h6.m,h7.m,h8.m,h9.m⟩
  refine StepsL.c 5 [3] (fun l f W hR hn hb K Q2 hK=>?_) ?_
  ·obtain ⟨hS,h0,h1,h2,h3,h4,h5,h6,h7,h8,h9⟩:=hR
   have q3:=h3.out (hb 3 (by simp))
   obtain ⟨L2,e3⟩:=q3
   obtain ⟨A,n,e2,_⟩:=h2.out L2
   rw [e2] at e3
   clear hb
   refine ⟨?_⟩
   simp only [pfs] at hK⊢
   (try simp only [e3,e2] at hK)
   simp only [e3]
   go_simp
   refine hK.out _ _ ⟨⟨hS.1,by simpa using hS.2⟩,⟨fun hl=>let ⟨S,a,b⟩:=(h0.out hl.b);⟨S,a,fun h=>b fun h2=>h h2.fwd⟩⟩,h1.k,h2.k,h3.m,⟨fun _=>⟨L2.fwd,_,_,e2⟩⟩,h5.m,h6.m,⟨fun hl=>absurd (h7.out hl.b).1 hn⟩,h8.m,h9.m⟩
  refine StepsL.c 6 [3] (fun l f W hR hn hb K Q2 hK=>?_) ?_
  ·obtain ⟨hS,h0,h1,h2,h3,h4,h5,h6,h7,h8,h9⟩:=hR
   have q3:=h3.out (hb 3 (by simp))
   obtain ⟨L2,e3⟩:=q3
   obtain ⟨A,n,e2,_⟩:=h2.out L2
   rw [e2] at e3
   clear hb
   refine ⟨?_⟩
   simp only [pfs] at hK⊢
   (try simp only [e3,e2] at hK)
   simp only [e3]
   go_simp
   refine hK.out _ _ ⟨⟨hS.1,by simpa using hS.2⟩,⟨fun hl=>let ⟨S,a,b⟩:=(h0.out hl.b);⟨S,a,fun h=>b fun h2=>h h2.fwd⟩⟩,h1.k,h2.k,h3.m,h4.m,⟨fun _=>⟨L2.fwd,_,_,e2⟩⟩,h6.m,h7.m,⟨fun hl=>absurd (h8.out hl.b).1 hn⟩,h9.m⟩
  refine StepsL.c 7 [3] (fun l f W hR hn hb K Q2 hK=>?_) ?_
  ·obtain ⟨hS,h0,h1,h2,h3,h4,h5,h6,h7,h8,h9⟩:=hR
   have q3:=h3.out (hb 3 (by simp))
   obtain ⟨L2,e3⟩:=q3
   obtain ⟨A,n,e2,_⟩:=h2.out L2
   rw [e2] at e3
   clear hb
   refine ⟨?_⟩
   simp only [pfs] at hK⊢
   (try simp only [e3,e2] at hK)
   simp only [e3]
   go_simp
   refine hK.out _ _ ⟨⟨hS.1,by simpa using hS.2⟩,⟨fun hl=>let ⟨S,a,b⟩:=(h0.out hl.b);⟨S,a,fun h=>b fun h2=>h h2.fwd⟩⟩,h1.k,h2.k,h3.m,h4.m,h5.m,⟨fun _=>⟨L2.fwd,_,_,e2⟩⟩,h7.m,h8.m,⟨fun hl=>absurd (h9.out hl.b).1 hn⟩⟩
  refine StepsL.c 8 [4,2,0,1,2,3,4] (fun l f W hR hn hb K Q2 hK=>?_) ?_
  ·obtain ⟨hS,h0,h1,h2,h3,h4,h5,h6,h7,h8,h9⟩:=hR
   have q0:=h0.out (hb 0 (by simp))
   have q1:=h1.out (hb 1 (by simp))
   have q2:=h2.out (hb 2 (by simp))
   have q3:=h3.out (hb 3 (by simp))
   have q4:=h4.out (hb 4 (by simp))
   have hb4:=hb 4 (by simp)
   obtain ⟨L2,_,_,e4⟩:=q4
   obtain ⟨A,n,e2,_⟩:=h2.out L2
   have e5:=e2.symm.trans e4
   injection e5 with e5
   injection e5 with e5
   simp only [List.cons.injEq,and_true] at e5
   obtain ⟨e6,-,-⟩:=e5
   replace e6:=e6.symm
   have L5:=hb4
   clear e2 e4 q3
   clear hb
   refine ⟨?_⟩
   simp only [pfs] at hK⊢
   (try simp only [q1,e6] at hK)
   simp only [e6]
   go_simp
   refine hK.out _ _ ⟨⟨hS.1,by simpa using hS.2⟩,⟨fun hl=>let ⟨S,a,b⟩:=(h0.out hl.b);⟨S,a,fun h=>b fun h2=>h h2.fwd⟩⟩,h1.k,h2.k,h3.m,h4.m,h5.m,h6.m,⟨fun _=>⟨L5.fwd,e6.symm⟩⟩,h8.m,h9.m⟩
  refine StepsL.c 9 [5,7,0,1,2,3,4,5,7] (fun l f W hR hn hb K Q2 hK=>?_) ?_
  ·obtain ⟨hS,h0,h1,h2,h3,h4,h5,h6,h7,h8,h9⟩:=hR
   have q0:=h0.out (hb 0 (by simp))
   have q1:=h1.out (hb 1 (by simp))
   have q2:=h2.out (hb 2 (by simp))
   have q3:=h3.out (hb 3 (by simp))
   have q4:=h4.out (hb 4 (by simp))
   have q5:=h5.out (hb 5 (by simp))
   have q7:=h7.out (hb 7 (by simp))
   have hb5:=hb 5 (by simp)
   obtain ⟨L2,_,_,e4⟩:=q5
   obtain ⟨A,n,e2,_⟩:=h2.out L2
   have e5:=e2.symm.trans e4
   injection e5 with e5
   injection e5 with e5
   simp only [List.cons.injEq,and_true] at e5
   obtain ⟨-,e6,-⟩:=e5
   replace e6:=e6.symm
   have L5:=hb5
   clear e2 e4 q3 q7
   clear hb
   refine ⟨?_⟩
   simp only [pfs] at hK⊢
   (try simp only [q1,e6] at hK)
   simp only [e6]
   go_simp
   refine hK.out _ _ ⟨⟨hS.1,by simpa using hS.2⟩,⟨fun hl=>let ⟨S,a,b⟩:=(h0.out hl.b);⟨S,a,fun h=>b fun h2=>h h2.fwd⟩⟩,h1.k,h2.k,h3.m,h4.m,h5.m,h6.m,h7.m,⟨fun _=>⟨L5.fwd,e6.symm⟩⟩,h9.m⟩
  refine StepsL.c 10 [6,8,0,1,2,3,4,5,6,7,8] (fun l f W hR hn hb K Q2 hK=>?_) ?_
  ·obtain ⟨hS,h0,h1,h2,h3,h4,h5,h6,h7,h8,h9⟩:=hR
   have q0:=h0.out (hb 0 (by simp))
   have q1:=h1.out (hb 1 (by simp))
   have q2:=h2.out (hb 2 (by simp))
   have q3:=h3.out (hb 3 (by simp))
   have q4:=h4.out (hb 4 (by simp))
   have q5:=h5.out (hb 5 (by simp))
   have q6:=h6.out (hb 6 (by simp))
   have q7:=h7.out (hb 7 (by simp))
   have q8:=h8.out (hb 8 (by simp))
   have hb6:=hb 6 (by simp)
   obtain ⟨L2,_,_,e4⟩:=q6
   obtain ⟨A,n,e2,_⟩:=h2.out L2
   have e5:=e2.symm.trans e4
   injection e5 with e5
   injection e5 with e5
   simp only [List.cons.injEq,and_true] at e5
   obtain ⟨-,-,e6⟩:=e5
   replace e6:=e6.symm
   have L5:=hb6
   clear e2 e4 q3 q7 q8
   clear hb
   refine ⟨?_⟩
   simp only [pfs] at hK⊢
   (try simp only [q1,e6] at hK)
   simp only [e6]
   go_simp
   refine hK.out _ _ ⟨⟨hS.1,by simpa using hS.2⟩,⟨fun hl=>let ⟨S,a,b⟩:=(h0.out hl.b);⟨S,a,fun h=>b fun h2=>h h2.fwd⟩⟩,h1.k,h2.k,h3.m,h4.m,h5.m,h6.m,h7.m,h8.m,⟨fun _=>⟨L5.fwd,e6.symm⟩⟩⟩
  exact StepsL.nil
 ·intro l f W hR hall
  obtain ⟨hS,h0,h1,h2,h3,h4,h5,h6,h7,h8,h9⟩:=hR
  have q0:=h0.out (hall 0 (by decide))
  have q1:=h1.out (hall 1 (by decide))
  have q2:=h2.out (hall 2 (by decide))
  have q3:=h3.out (hall 3 (by decide))
  have q4:=h4.out (hall 4 (by decide))
  have q5:=h5.out (hall 5 (by decide))
  have q6:=h6.out (hall 6 (by decide))
  have q7:=h7.out (hall 7 (by decide))
  have q8:=h8.out (hall 8 (by decide))
  have q9:=h9.out (hall 9 (by decide))
  clear h0 h1 h2 h3 h4 h5 h6 h7 h8 h9
  obtain ⟨A9,n9,e2,hD9⟩:=q2
  obtain ⟨_,x0,x1,e4⟩:=q4
  obtain ⟨_,y0,y1,e5⟩:=q5
  obtain ⟨_,z0,z1,e6⟩:=q6
  rw [e2] at e4 e5 e6
  simp only [Value.tuple.injEq,Array.mk.injEq,List.cons.injEq,and_true] at e4 e5 e6
  have r2:=q7.2.trans e4.1.symm
  have r3:=q8.2.trans e5.2.1.symm
  have r4:=q9.2.trans e6.2.2.symm
  have hb1:=hS.1
  simp only [putF,Act.put,List.setIfInBounds_toArray,List.set_cons_zero,List.set_cons_succ,r2,r3,r4]
  clear q0 q1 q3 q7 q8 q9 e2 e4 e5 e6 r2 r3 r4 hall hS
  obtain ⟨Wb,rfl⟩:∃X,X=W:=⟨_,rfl⟩
  replace hD9:=zH hD9
  go_upto_region 3 with (fail)
  have hwb:Below w.heap.size w Wb:=hwa.trans (hb1.mono (by omega))
  have hzb:w.heap.size+1+1 < Wb.heap.size:=by have:=hb1.size;omega
  have kzb:=(hb1.block _ hza).trans kz_
  have hzB:=(hzA.keep fun b hb=>hb1.block b hb).up (B':=Wb.heap.size) hb1.size
  have H3:=zH (fun S W h hz (hb:Below Wb.heap.size Wb W)=>H3.out S W h hz (hb1.trans (hb.mono hb1.size)))
  have H4:=zH (fun S W h hz (hb:Below Wb.heap.size Wb W)=>H4.out S W h hz (hb1.trans (hb.mono hb1.size)))
  clear hwa kz_ hza hzA hb1
  obtain ⟨hwa,kz_,hza,hzA⟩:=(⟨hwb,kzb,hzb,hzB⟩:_∧_∧_∧_)
  clear hwb kzb hzb hzB
  refine wp_region_inv [19,20,21,18,22,23,5,6] (fun l f W=>(Below Wb.heap.size Wb W∧l.size=8)∧Fa l 0 (∃S,f 19= .agg #[.int .i64 oneCfg.sets,.int .i64 oneCfg.ways,.int .i64 oneCfg.doms,.int .i64 oneCfg.pad,.int .i64 oneCfg.quantum,.slice S.a0 oneCfg.slots.length S.n0,.slice S.a1 oneCfg.owners.length S.n1,.slice S.a2 oneCfg.chans.length S.n2,.slice S.a3 oneCfg.tasks.length S.n3]∧(¬ Lst l 2→TCfg.At (Low W.heap.size) W oneCfg S))∧Fa l 1 (f 20= .agg #[.slice A0 1 1,.slice none 0 0,.int .i64 1])∧Fa l 2 (f 21= .tuple #[.string (bs exTr),.int .i64 0])∧Fa l 3 (f 18= .tuple #[.string (bs exTr),.int .i64 0])∧Fa l 4 (f 22= .string (bs exTr))∧Fa l 5 (f 23= .int .i64 0)∧Fa l 6 (f 5= .string (bs exTr))∧Fa l 7 (f 6= .int .i64 0)) (by kernel_rfl) (by decide) (by kernel_rfl) (by intro s hs;simp at hs⊢;omega) ?_ ?_ ?_
  ·intro l hz hl
   exact ⟨⟨(Below.refl _ _).drew,hz⟩,.no (hl 0),.no (hl 1),.no (hl 2),.no (hl 3),.no (hl 4),.no (hl 5),.no (hl 6),.no (hl 7)⟩
  ·refine StepsL.c 1 [] (fun l f W hR hn hb K Q2 hK=>?_) ?_
   ·obtain ⟨hS,h0,h1,h2,h3,h4,h5,h6,h7⟩:=hR
    clear hb
    refine ⟨?_⟩
    simp only [pfs] at hK⊢
    have HC:=H0.out W
    go_simp
    go_at_call 12
    refine HC.mono ?_
    clear HC
    rintro e w3 ⟨S3,rfl,hs3,hb3⟩
    try dsimp only
    try simp only [Act.put,List.setIfInBounds_toArray,List.set_cons_zero,List.set_cons_succ]
    refine hK.out _ _ ⟨⟨hS.1.trans (hb3.mono hS.1.size),by simpa using hS.2⟩,⟨fun _=>⟨S3,rfl,fun _=>hs3.rng (Nat.le_refl _)⟩⟩,h1.k,h2.k,h3.k,h4.k,h5.k,h6.k,h7.k⟩
   refine StepsL.c 2 [] (fun l f W hR hn hb K Q2 hK=>?_) ?_
   ·obtain ⟨hS,h0,h1,h2,h3,h4,h5,h6,h7⟩:=hR
    clear hb
    refine ⟨?_⟩
    simp only [pfs] at hK⊢
    have hbx:=(hS.1.block _ hza).trans kz_
    obtain ⟨cX,fX,zX⟩:=blk hbx
    go_simp
    refine hK.out _ _ ⟨⟨hS.1,by simpa using hS.2⟩,⟨fun hl=>let ⟨S,a,b⟩:=(h0.out hl.b);⟨S,a,fun h=>b fun h2=>h h2.fwd⟩⟩,⟨fun _=>rfl⟩,h2.k,h3.k,h4.k,h5.k,h6.k,h7.k⟩
   refine StepsL.c 3 [0,1,0] (fun l f W hR hn hb K Q2 hK=>?_) ?_
   ·obtain ⟨hS,h0,h1,h2,h3,h4,h5,h6,h7⟩:=hR
    have q0:=h0.out (hb 0 (by simp))
    have q1:=h1.out (hb 1 (by simp))
    obtain ⟨S3,e0,hs3⟩:=q0
    have hs3:=hs3 hn
    have hsz:=hS.1.size
    have hz3:=(hzA.keep fun b hb=>hS.1.block b hb).up (B':=W.heap.size) hsz
    clear hb
    refine ⟨?_⟩
    simp only [pfs] at hK⊢
    (try simp only [q1,e0] at hK)
    have HC:=H3.out S3 W hs3 hz3 (hS.1)
    simp only [q1,e0]
    go_simp
    go_at_call 15
    refine HC.mono ?_
    clear HC
    rintro e w3 ⟨rfl,hb3⟩
    try dsimp only
    try simp only [Act.put,List.setIfInBounds_toArray,List.set_cons_zero,List.set_cons_succ]
    refine hK.out _ _ ⟨⟨hS.1.trans (hb3.mono hS.1.size),by simpa using hS.2⟩,⟨fun hl=>let ⟨S,a,b⟩:=(h0.out hl.b);⟨S,a,fun h=>absurd (Lst.self (by rw [hS.2];omega)) h⟩⟩,h1.k,⟨fun _=>rfl⟩,h3.k,h4.k,h5.k,h6.k,h7.k⟩
   refine StepsL.c 4 [2] (fun l f W hR hn hb K Q2 hK=>?_) ?_
   ·obtain ⟨hS,h0,h1,h2,h3,h4,h5,h6,h7⟩:=hR
    have q2:=h2.out (hb 2 (by simp))
    clear hb
    refine ⟨?_⟩
    simp only [pfs] at hK⊢
    (try simp only [q2] at hK)
    simp only [q2]
    go_simp
    refine hK.out _ _ ⟨⟨hS.1,by simpa using hS.2⟩,⟨fun hl=>let ⟨S,a,b⟩:=(h0.out hl.b);⟨S,a,fun h=>b fun h2=>h h2.fwd⟩⟩,h1.k,h2.k,⟨fun _=>rfl⟩,h4.k,h5.k,h6.k,h7.k⟩
   refine StepsL.c 5 [3] (fun l f W hR hn hb K Q2 hK=>?_) ?_
   ·obtain ⟨hS,h0,h1,h2,h3,h4,h5,h6,h7⟩:=hR
    have q3:=h3.out (hb 3 (by simp))
    clear hb
    refine ⟨?_⟩
    simp only [pfs] at hK⊢
    (try simp only [q3] at hK)
    simp only [q3]
    go_simp
    refine hK.out _ _ ⟨⟨hS.1,by simpa using hS.2⟩,⟨fun hl=>let ⟨S,a,b⟩:=(h0.out hl.b);⟨S,a,fun h=>b fun h2=>h h2.fwd⟩⟩,h1.k,h2.k,h3.k,⟨fun _=>rfl⟩,h5.k,h6.k,h7.k⟩
   refine StepsL.c 6 [3] (fun l f W hR hn hb K Q2 hK=>?_) ?_
   ·obtain ⟨hS,h0,h1,h2,h3,h4,h5,h6,h7⟩:=hR
    have q3:=h3.out (hb 3 (by simp))
    clear hb
    refine ⟨?_⟩
    simp only [pfs] at hK⊢
    (try simp only [q3] at hK)
    simp only [q3]
    go_simp
    refine hK.out _ _ ⟨⟨hS.1,by simpa using hS.2⟩,⟨fun hl=>let ⟨S,a,b⟩:=(h0.out hl.b);⟨S,a,fun h=>b fun h2=>h h2.fwd⟩⟩,h1.k,h2.k,h3.k,h4.k,⟨fun _=>rfl⟩,h6.k,h7.k⟩
   refine StepsL.c 7 [4,2,0,1,2,3,4] (fun l f W hR hn hb K Q2 hK=>?_) ?_
   ·obtain ⟨hS,h0,h1,h2,h3,h4,h5,h6,h7⟩:=hR
    have q0:=h0.out (hb 0 (by simp))
    have q1:=h1.out (hb 1 (by simp))
    have q2:=h2.out (hb 2 (by simp))
    have q3:=h3.out (hb 3 (by simp))
    have q4:=h4.out (hb 4 (by simp))
    clear hb
    refine ⟨?_⟩
    simp only [pfs] at hK⊢
    (try simp only [q1,q2,q3,q4] at hK)
    simp only [q4]
    go_simp
    refine hK.out _ _ ⟨⟨hS.1,by simpa using hS.2⟩,⟨fun hl=>let ⟨S,a,b⟩:=(h0.out hl.b);⟨S,a,fun h=>b fun h2=>h h2.fwd⟩⟩,h1.k,h2.k,h3.k,h4.k,h5.k,⟨fun _=>rfl⟩,h7.k⟩
   refine StepsL.c 8 [5,6,0,1,2,3,4,5,6] (fun l f W hR hn hb K Q2 hK=>?_) ?_
   ·obtain ⟨hS,h0,h1,h2,h3,h4,h5,h6,h7⟩:=hR
    have q0:=h0.out (hb 0 (by simp))
    have q1:=h1.out (hb 1 (by simp))
    have q2:=h2.out (hb 2 (by simp))
    have q3:=h3.out (hb 3 (by simp))
    have q4:=h4.out (hb 4 (by simp))
    have q5:=h5.out (hb 5 (by simp))
    have q6:=h6.out (hb 6 (by simp))
    clear hb
    refine ⟨?_⟩
    simp only [pfs] at hK⊢
    (try simp only [q1,q2,q3,q4,q5,q6] at hK)
    simp only [q5]
    go_simp
    refine hK.out _ _ ⟨⟨hS.1,by simpa using hS.2⟩,⟨fun hl=>let ⟨S,a,b⟩:=(h0.out hl.b);⟨S,a,fun h=>b fun h2=>h h2.fwd⟩⟩,h1.k,h2.k,h3.k,h4.k,h5.k,h6.k,⟨fun _=>rfl⟩⟩
   exact StepsL.nil
  ·intro l f W hR hall
   obtain ⟨hS,h0,h1,h2,h3,h4,h5,h6,h7⟩:=hR
   have q0:=h0.out (hall 0 (by decide))
   have q1:=h1.out (hall 1 (by decide))
   have q2:=h2.out (hall 2 (by decide))
   have q3:=h3.out (hall 3 (by decide))
   have q4:=h4.out (hall 4 (by decide))
   have q5:=h5.out (hall 5 (by decide))
   have q6:=h6.out (hall 6 (by decide))
   have q7:=h7.out (hall 7 (by decide))
   clear h0 h1 h2 h3 h4 h5 h6 h7
   obtain ⟨S9,e9,_⟩:=q0
   clear e9
   have hb1:=hS.1
   simp only [putF,Act.put,List.setIfInBounds_toArray,List.set_cons_zero,List.set_cons_succ,q6,q7]
   clear q1 q2 q3 q4 q5 q6 q7 hall hS
   obtain ⟨Wc,rfl⟩:∃X,X=W:=⟨_,rfl⟩
   have H4:=zH (fun S W h hz (hb:Below Wc.heap.size Wc W)=>H4.out S W h hz (hb1.trans (hb.mono hb1.size)))
   have hwc:Below w.heap.size w Wc:=hwa.trans (hb1.mono (by omega))
   have hzc:w.heap.size+1+1 < Wc.heap.size:=by have:=hb1.size;omega
   have kzc:=(hb1.block _ hza).trans kz_
   have hzC:=(hzA.keep fun b hb=>hb1.block b hb).up (B':=Wc.heap.size) hb1.size
   obtain ⟨b,o,T9,rfl,hI,k0,k1,k2,k3,k4,k5,k6,hT9⟩:=(hD9.out.keep fun b hb=>hb1.block b hb).at_dom (k:=0) (by rw [show exDs.length=1 from ex_len];decide)
   rw [ex_next] at k2
   have hbw:b < Wc.heap.size:=Nat.lt_of_lt_of_le hI hb1.size
   simp only [Nat.zero_mul,Nat.add_zero] at k2
   clear hwa kz_ hza hzA hb1 H3 H2 hI k0 k1 k3 k4 k5 k6 hT9 hD9
   obtain ⟨cz,fz,zz⟩:=blk kzc
   unfold bs exTr
   go_upto_region 4 with (fail)
   go_region_held3 (fun w'=>(∀oo,w'.cell? ⟨w.heap.size+1+1,oo,none⟩=#[.slice A0 1 1,.slice none 0 0,.int .i64 1][oo]?)∧w'.cell? ⟨b,o+2,none⟩=some (.int .i64 1)) (((try dsimp only);(repeat' apply And.intro)<;>(first|exact fun oo=>(Below.cell (B:=Wc.heap.size) (w:=Wc) byB (by first|assumption|omega)).trans (cz oo)|exact (Below.cell (B:=Wc.heap.size) (w:=Wc) byB (by first|assumption|omega)).trans (by assumption)|go_keep|(simp [go_sem, *];done))))
    (first|(go_at_call 12;refine (H0.out _).mono ?_;rintro e w8 ⟨S8,rfl,hs8,hb_w8⟩;refine armT w hb_w8 (fun h_w8 s_w8 t_w8 hb_w8=>?_);(try simp at t_w8))|(go_at_call 16;refine (H4.out S8 _ ((hs8.keepI byI).rng byS) ((hzC.next (Nat.le_refl _) byB).up byS) byB).mono ?_;rintro e w9 ⟨rfl,hb_w9⟩;refine armT w hb_w9 (fun h_w9 s_w9 t_w9 hb_w9=>?_);(try simp at t_w9)))
   all_goals
    go_wp2_with fail
    go_ret
    exact ⟨rfl,byB⟩
end Go.Proofs.YtinlmkhlgclbfabDoor
