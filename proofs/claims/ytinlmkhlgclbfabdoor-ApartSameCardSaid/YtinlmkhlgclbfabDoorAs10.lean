/- CacheB to RegInvF -/
import Derived.Test.YtinlmkhlgclbfabDoorAs09
import Derived.RangeFuncNested
import Derived.RangeFuncBound
import Derived.OrdersIn
namespace Go.Proofs.YtinlmkhlgclbfabDoor
open Go.RowKit
section
set_option maxRecDepth 100000
set_option maxHeartbeats 400000
def oWay:OCod TWay:= .flat 2 TWay.cells (fun _=>rfl)
def OCache (F:Nat→Prop) (w:World) (v:Value) (c:List (List TWay)):Prop:=OSl (OCod.slice 122 oWay) 114 F w v c
theorem tyWays:TyS Tryd.prog 64 114 (.slice none 0 0) 1 24:=⟨Tryd.underlying64,info_of (by kernel_rfl),rfl,by decide⟩
def RetCache (c:List (List TWay)) (w:World) (en:Ending) (w':World):Prop:=∃A n,en= .returned (.agg #[.slice A c.length n])∧OCache (Rng w.heap.size w'.heap.size) w' (.slice A c.length n) c∧Below w.heap.size w w'
theorem take_snoc {T:Type}[Inhabited T]{xs:List T}{k:Nat}(h:k < xs.length):xs.take (k+1)=xs.take k++[nth xs k]:=by
 rw [List.take_succ_eq_append_getElem h,nth_eq h]
theorem len_take {T:Type}{xs:List T}{k:Nat}(h:k≤xs.length):(xs.take k).length=k:=by rw [List.length_take];omega
theorem nth_replicate {T:Type}[Inhabited T]{n k:Nat}{x:T}(h:k < n):nth (List.replicate n x) k=x:=by
 rw [nth_eq (by simpa using h)];simp
def emptySet (ways:Nat):List TWay:=List.replicate ways ⟨0,false⟩
theorem cacheEmpty (sets ways:Nat)(w:World)(h1:sets≤1000000000000)(h2:ways≤1000000000000):
  Calls Tryd.prog 32 #[.int .i64 sets,.int .i64 ways] w (RetCache (emptyCache sets ways) w):=by
 have hmk:=make_run tyWay ways (by omega) (by omega)
 have hlen:(emptyCache sets ways).length=sets:=by simp [emptyCache]
 have HL:=zH hlen
 clear hlen
 generalize hc:emptyCache sets ways=c at*
 have HC:=zH (show ∀k,k < sets→nth c k=emptySet ways by intro k hk;rw [← hc];exact nth_replicate hk)
 clear hc
 go_enter Tryd.func32,Tryd.ntmps32
 go_wp2_with fail
 go_loopw [7] (fun iv wr=>∃(k:Nat) (A1:Option Addr) (c1:Nat),k≤sets∧iv= .int .i64 k∧wr.heap[w.heap.size]?=some (.cells #[.slice none 0 0] 66)∧wr.heap[w.heap.size+1]?=some (.cells #[.slice A1 k c1] 66)∧
  OCache (Rng (w.heap.size+2) wr.heap.size) wr (.slice A1 k c1) (c.take k)∧Below w.heap.size w wr) (fun iv _=>sets - (intOf iv).toNat)
 case atStart=>exact ⟨0,none,0,Nat.zero_le _,rfl,byH,byH,OSl.nil _ _ _ _,byB⟩
 case round=>
  obtain ⟨k,A1,c1,hk,rfl,hr,ho,hO,hbw⟩:=hrel
  obtain ⟨cr,fr,zr⟩:=blk hr
  obtain ⟨co,fo,zo⟩:=blk ho
  have hsz:=hbw.size
  by_cases hlt:k < sets
  ·obtain ⟨ess,G,e1,e2,e3,e4,e5,e6⟩:=hO
   have hkl:k≤c.length:=by rw [HL.out];exact hk
   rw [len_take hkl] at e1 e2
   have e2:wr.ownsRow 0 114 1 (.slice A1 k c1) k ess.flatten:=e2
   have hlo:∀b,(Value.slice A1 k c1).ownBlock=some b→w.heap.size+2≤b:=fun b hb=>(e3 b hb).1
   have hk0:(0:Int)≤k:=by omega
   have hk1:(k:Int) < sets:=by omega
   have HM:=zH (made_own tyWay ways (by omega))
   go_wp2_with fail
   go_region_law
    (first|(refine step_app ?_ (.tmp 10) (.tmp 13) _ ?_ 0 tyWays (.slice A1 k c1) k ess.flatten ?_ ?_ (some ⟨wr.heap.size+1,0,none⟩) 1 1 [.slice (some ⟨wr.heap.size,0,none⟩) ways ways] ?_ ?_ (one_one rfl) ?_ ?_ ?_ ?_;rfl;rfl;rfl;exact (by repeat (first|with_reducible exact e2|(with_reducible refine World.ownsRow.alloc ?_ _)|(with_reducible refine own_drew ?_)|(with_reducible refine own_drewN ?_ _)));rfl;exact (src_new (by simp) rfl);(first|(unfold maxLen;omega)|(simp only [maxLen];omega));(omega);(exact Nat.zero_le _);intro A3 c3 w3 hown3 hg_w3 hat_w3;refine have_then (P:=w3.heap[w.heap.size]?=some (.cells #[.slice none 0 0] 66)) ?_ (fun r_w3=>?_);(focus (refine (hg_w3.block _ ?_ ?_).trans ?_;(first|omega|(simp<;>omega));(intro e;have hlt:=hlo _ e.symm;omega);exact byH;done));obtain ⟨cr_w3,fr_w3,zr_w3⟩:=blk r_w3;refine have_then (P:=w3.heap[w.heap.size+1]?=some (.cells #[.slice A1 k c1] 66)) ?_ (fun o_w3=>?_);(focus (refine (hg_w3.block _ ?_ ?_).trans ?_;(first|omega|(simp<;>omega));(intro e;have hlt:=hlo _ e.symm;omega);exact byH;done));obtain ⟨co_w3,fo_w3,zo_w3⟩:=blk o_w3;refine have_then (P:=Below w.heap.size w w3) ?_ (fun h_w3=>?_);(focus (refine Below.grown ?_ hg_w3 ?_ ?_;(focus (exact byB;done));(first|exact Nat.le_refl _|exact Below.size (by assumption)|omega|(simp<;>omega));(intro kk hkk;have hlt:=hlo _ hkk;omega);done));have s_w3:=Below.size h_w3;have t_w3:=hg_w3.size;(try simp at t_w3)))
   all_goals
    go_wp2_with fail
    go_roundw
    case rel=>
     refine ⟨k+1,A3,c3,by omega,by go_num,byH,?_,?_,byB⟩
     ·have:=heap_set_same (i:=0) (u:= .slice A3 (k+1) c3) o_w3
      simpa using this
     ·unfold OCache
      have hlc:k < c.length:=by rw [HL.out];exact hlt
      rw [take_snoc hlc,HC.out k hlt]
      have hl1:(c.take k).length=k:=len_take hkl
      refine osl_step (F:=Rng (w.heap.size+2) wr.heap.size) (Fx:=Rng wr.heap.size (wr.heap.size+1)) (es:=[.slice (some ⟨wr.heap.size,0,none⟩) ways ways]) (by rw [hl1];exact e1) e4 e5 e6 e3 hg_w3 hat_w3 (by rw [hl1];exact hown3) ⟨.slice (some ⟨wr.heap.size,0,none⟩) ways ways,rfl,osl_flat.2 ⟨?_,?_⟩⟩ byI ?_ ?_ ?_ ?_ ?_
      ·have:=HM.out wr.drew wr.heap.size rfl
       rw [show (emptySet ways).length=ways by simp [emptySet]]
       unfold emptySet
       rw [replicate_flatMap]
       exact World.ownsRow.alloc this _
      ·intro b hb;simp [Value.ownBlock] at hb;simp only [Rng];omega
      ·intro b hb hb';simp only [Rng] at hb hb';omega
      ·intro b hb;simp only [Rng] at hb;simp;omega
      ·intro b hb;simp only [Rng] at hb⊢;simp;omega
      ·intro b hb hb';simp only [Rng];simp at hb⊢;omega
      ·exact byI
    case measure=>simp [intOf];omega
  ·obtain rfl:k=sets:=by omega
   have hO:OCache (Rng (w.heap.size+2) wr.heap.size) wr (.slice A1 k c1) c:=by rw [← HL.out,List.take_length,HL.out] at hO;exact hO
   go_wp2_with fail
   refine bodyPost_ret (v:= .agg #[.slice A1 k c1]) (by simp [results,Tryd.results32,go_sem, *]) rfl ?_
   refine ⟨A1,c1,by rw [HL.out],OSl.mono (OSl.keepI (by rw [HL.out];exact hO) byI) ?_,byB⟩
   ·intro b hb;simp only [Rng] at hb⊢;simp;omega
end
section
def IterB {α:Type} (F:Fence) (n:Nat) (P:Program) (g:Nat) (fb:Array Value) (encs:α→Array Value) (V:α→Prop) (Rd:World→Prop) (S:List α→Prop) (N:Nat):Prop:=
 ∀(l:Nat) (J:List α→World→Prop) (W:World),(∀pre A,J pre A→Rd A)→(∀pre A A',J pre A→Below A.heap.size A A'→J pre A')→
  (∀pre x A,V x→J pre A→pre.length < N→YieldAt F (n - 1) P l (encs x) A fun e A'=>e= .returned (.bool true)∧J (pre++[x]) A')→
  J [] W→CallsIn F n P g (fb++#[.func (.yield l) #[] #[]]) W fun e W'=>(∃v,e= .returned v)∧∃xs,S xs∧J xs W'
theorem wpIn_rangeB {F:Fence}{n:Nat}{P:Program}{α:Type}{g:Operand}{ps:Array Tmp}{assign body:Code}{Q:Exit→Act→World→Prop}{a:Act}{w:World}
  (hro:F.round=none) (h1:1≤n) {gf:Nat} {fb:Array Value} (hg:a.eval g= .func (.func gf) fb #[]) (hFg:F.fn gf) (eg:∀args w,(callFunc gf args).run P w= .ok (.enter gf args) w)
  {encs:α→Array Value} {V:α→Prop} {Rd:World→Prop} {S:List α→Prop} {N:Nat} (hit:IterB F (n - 1) P gf fb encs V Rd S N) (hps:∀x,(encs x).size=ps.size)
  (I:List α→World→Prop) (hRd:∀pre A,I pre A→Rd A) (hext:∀pre A A',I pre A→Below A.heap.size A A'→I pre A')
  (hput:∀pre A o,I pre A→I pre (A.putObj (w.heap.size+1) o)) (h0:∀W1,w.heap.size+2≤W1.heap.size→Below w.heap.size w W1→I [] W1) (a₁:α→Act)
  (hassign:∀(l:Nat) (x:α) (W:World) (K:Act→World→Prop),K (a₁ x) W→
   assign.wpIn (F.inRound l) (n - 1 - 1) P (Exit.then K (fun _ _ _=>False)) {tmps:=(ps.zip (encs x)).foldl (fun t (p,v)=>t.setIfInBounds p v) a.tmps,defers:=[]} W)
  (hbody:∀(pre:List α) (x:α) (W:World),V x→w.heap.size+2≤W.heap.size→I pre W→pre.length < N→
   body.wpIn (F.inRound (w.heap.size+1)) (n - 1 - 1) P (fun e _ W'=>e= .normal∧W'.heap[w.heap.size]?=W.heap[w.heap.size]?∧W'.heap[w.heap.size+1]?=W.heap[w.heap.size+1]?∧W.heap.size≤W'.heap.size∧I (pre++[x]) W') (a₁ x) W)
  (hdone:∀(xs:List α) (W:World),S xs→I xs W→W.heap[w.heap.size]?=some (.deferred (some []))→w.heap.size+2≤W.heap.size→Q .normal {a with defers:= {target:= .collected w.heap.size,args:=#[]} ::a.defers} W):
  (Code.rangeFunc g ps assign body).wpIn F n P Q a w:=by
 refine wpIn_rangeFunc fun fn hfn=>?_
 rw [hro]
 obtain ⟨rc,hrc⟩:∃rc:LoopState→Loop,rc=fun st=>{state:=st,pending:=none,fn,tmps:=a.tmps,params:=ps,assign,body,defers:=w.heap.size} :=⟨_,rfl⟩
 obtain ⟨W1,hW1⟩:∃W1,(w.alloc (.deferred (some []))).alloc (.loop (rc .ready))=W1:=⟨_,rfl⟩
 have hs1:W1.heap.size=w.heap.size+2:=by rw [← hW1];simp
 have hL:W1.heap[w.heap.size+1]?=some (.loop (rc .ready)):=by rw [← hW1];exact heapAt _ _ _ (by simp)
 have hD:W1.heap[w.heap.size]?=some (.deferred (some [])):=by rw [← hW1];exact (heap_alloc_old _ _ (by simp)).trans (heapAt _ _ _ rfl)
 have hI1:I [] W1:=h0 W1 (by omega) (by rw [← hW1];exact ((Below.refl _ w).alloc (Nat.le_refl _) _).alloc (by simp) _)
 refine ⟨w.heap.size+1,[{target:= .collected w.heap.size,args:=#[]}],W1, {target:= .fn (.func gf) #[],args:=fb++#[.func (.yield (w.heap.size+1)) #[] #[]]},W1,gf,fb++#[.func (.yield (w.heap.size+1)) #[] #[]],W1,?_,?_,?_,?_,fun _=>h1,?_⟩
 ·rw [← hW1,hrc];exact run_enterLoop_outer _ _ _ _ _
 ·simp only [resolve,hg]
  simp [go_sem]
 ·intro f' hf';simp [Target.leads] at hf';subst hf';exact hFg
 ·simp [invoke,go_sem,eg]
 ·refine (hit (w.heap.size+1) (fun pre W=>I pre W∧W.heap[w.heap.size+1]?=some (.loop (rc .ready))∧W.heap[w.heap.size]?=some (.deferred (some []))∧w.heap.size+2≤W.heap.size) W1
   (fun pre A h=>hRd pre A h.1) (fun pre A A' h hb=>⟨hext pre A A' h.1 hb,(hb.block _ (by omega)).trans h.2.1,(hb.block _ (by omega)).trans h.2.2.1,Nat.le_trans h.2.2.2 hb.size⟩) ?_ ⟨hI1,hL,hD,by omega⟩).mono ?_
  ·rintro pre x W hV ⟨hi,hl,hk,hsz⟩ hlen
   have hy:=run_yield (P:=P) (args:=encs x) hl (by rw [hrc];exact hps x)
   rw [hrc] at hy
   refine ⟨fn,_,assign,body,hy,roundIn_of_wpIn hfn (hassign _ x W _ ⟨_,run_beginRound hl (by rw [hrc]),?_⟩)⟩
   have hl2:(W.putObj (w.heap.size+1) (.loop {rc .ready with state:= .busy})).heap[w.heap.size+1]?=some (.loop {rc .ready with state:= .busy}):=World.putObj_heap_same (by omega)
   have hk2:(W.putObj (w.heap.size+1) (.loop {rc .ready with state:= .busy})).heap[w.heap.size]?=some (.deferred (some [])):=(World.putObj_heap_other (by omega)).trans hk
   refine wpIn_mono (hbody pre x _ hV (by simpa using hsz) (hput _ _ _ hi) hlen) ?_
   rintro e a3 W3 ⟨rfl,hd3,hl3,hs3,hi3⟩
   have hl4:=hl3.trans hl2
   have hs4:w.heap.size+2≤W3.heap.size:=Nat.le_trans (by simpa using hsz) hs3
   refine ⟨_,_,run_endRound none hl4,rfl,hput _ _ _ hi3,?_,(World.putObj_heap_other (by omega)).trans (hd3.trans hk2),by simpa using hs4⟩
   rw [hrc]
   exact World.putObj_heap_same (by omega)
  ·rintro e W2 ⟨⟨v,rfl⟩,xs,hS,hi,hl,hk,hsz⟩
   exact ⟨none,_,by have:=run_endLoop (P:=P) hl (by rw [hrc];simp);rw [hrc] at this;exact this,hdone xs _ hS (hput _ _ _ hi) ((World.putObj_heap_other (by omega)).trans hk) (by simpa using hsz)⟩
section
variable {F : Fence} {n : Nat} {P : Program} {ops : Array Oper} {Q : Exit → Act → World → Prop}
def StepsFI (F:Fence) (n:Nat) (P:Program) (ops:Array Oper) (Q:Exit→Act→World→Prop) (R:Array Bool→(Nat→Value)→World→Prop) (a:Act) (sl:List Nat) (is:List Nat):Prop:=
 ∀i∈is,∀o,ops[i]?=some o→∀l f w,R l f w→¬ Lst l i→(∀j∈befores o,Lst l j)→(∀d,o.dst=some d→d∈sl)∧wpOpIn F n P ops Q i (fun a' w'=>∃v,a'=(putF a sl f).put o.dst v∧R (l.setIfInBounds i true) (upd f o.dst v) w') (putF a sl f) w
theorem wpAnyIn_inv {R:Array Bool→(Nat→Value)→World→Prop}{a:Act}{sl:List Nat}(hnd:sl.Nodup)(ht:topoB ops=true)(hs:StepsFI F n P ops Q R a sl (List.range ops.size))
  (he:∀l f w,R l f w→(∀i,i < ops.size→Lst l i)→Q .normal (putF a sl f) w):
  ∀fuel (l:Array Bool) (f:Nat→Value) (w:World),l.size=ops.size→l.toList.count false≤fuel→R l f w→wpAnyIn F n P .any ops Q fuel l (putF a sl f) w:=by
 intro fuel
 induction fuel with
 |zero=>
  intro l f w hz hc hR
  have hall:∀i,i < ops.size→Lst l i:=by
   intro i hi
   have hi':i < l.size:=by omega
   have h0:l.toList.count false=0:=by omega
   rw [List.count_eq_zero] at h0
   unfold Lst
   simp [Array.getD,hi']
   cases hb:l[i] with
   |true=>rfl
   |false=>exact absurd (by rw [← hb];simp) h0
  refine ⟨?_,he l f w hR hall⟩
  refine List.eq_nil_iff_forall_not_mem.2 fun i hi=>?_
  obtain ⟨o,ho,hn,_⟩:=ready_iff hz hi
  exact hn (hall i (Array.getElem?_eq_some_iff.1 ho).1)
 |succ fuel ih=>
  intro l f w hz hc hR
  refine ⟨fun hr=>he l f w hR (ready_nil hz ht hr),fun i hi=>?_⟩
  obtain ⟨o,ho,hn,hb⟩:=ready_iff hz hi
  have hlt:=(Array.getElem?_eq_some_iff.1 ho).1
  obtain ⟨hd,hw⟩:=hs i (List.mem_range.2 hlt) o ho l f w hR hn hb
  refine wpOpIn_mono (fun a' w' h=>?_) hw
  obtain ⟨v,rfl,hR'⟩:=h
  have hl':l.toList[i]?=some false:=by
   have h2:i < l.size:=by omega
   unfold Lst at hn
   simp [Array.getD,h2] at hn
   simp [h2,hn]
  have hc':(l.setIfInBounds i true).toList.count false≤fuel:=by
   rw [Array.toList_setIfInBounds]
   have:=count_set l.toList i hl'
   omega
  cases hdst:o.dst with
  |none=>
   rw [hdst] at hR'
   rw [put_none]
   have:upd f none v=f:=by funext k;simp [upd]
   rw [this] at hR'
   exact ih _ f w' (by simpa using hz) hc' hR'
  |some d=>
   rw [hdst] at hR'
   rw [putF_put a f d v sl hnd (hd d hdst)]
   exact ih _ _ w' (by simpa using hz) hc' hR'
def StepF (F:Fence) (n:Nat) (P:Program) (ops:Array Oper) (Q:Exit→Act→World→Prop) (R:Array Bool→(Nat→Value)→World→Prop) (a:Act) (sl:List Nat) (i:Nat) (o:Oper):Prop:=
 (∀d,o.dst=some d→d∈sl)∧∀l f w,R l f w→¬ Lst l i→(∀j∈befores o,Lst l j)→∀K:Act→World→Prop,Hid (∀v w',R (l.setIfInBounds i true) (upd f o.dst v) w'→K ((putF a sl f).put o.dst v) w')→
  if Region.wanted o (yielded ops (putF a sl f).tmps)=true then Oper.wpIn F n P o (putF a sl f) w K Q else (∀f',o.about P w (putF a sl f).eval=some f'→F.fn f')∧K ((putF a sl f).put o.dst undef) w
theorem StepF.plain {R:Array Bool→(Nat→Value)→World→Prop}{a:Act}{sl:List Nat}{i:Nat}{o:Oper}(bs:List Nat)(hb:befores o=bs)(hg:o.guard=none)(hd:∀d,o.dst=some d→d∈sl)
  (h:∀l f w,R l f w→¬ Lst l i→(∀j∈bs,Lst l j)→∀K:Act→World→Prop,Hid (∀v w',R (l.setIfInBounds i true) (upd f o.dst v) w'→K ((putF a sl f).put o.dst v) w')→Cov (Oper.wpIn F n P o (putF a sl f) w K Q)):StepF F n P ops Q R a sl i o:=by
 subst hb
 refine ⟨hd,fun l f w hR hn hb K hK=>?_⟩
 rw [if_pos (by simp [Region.wanted,hg])]
 exact (h l f w hR hn hb K hK).out
theorem StepF.wanted {R:Array Bool→(Nat→Value)→World→Prop}{a:Act}{sl:List Nat}{i:Nat}{o:Oper}(bs:List Nat)(hb:befores o=bs)(hd:∀d,o.dst=some d→d∈sl)
  (h:∀l f w,R l f w→¬ Lst l i→(∀j∈bs,Lst l j)→Region.wanted o (yielded ops (putF a sl f).tmps)=true∧∀K:Act→World→Prop,Hid (∀v w',R (l.setIfInBounds i true) (upd f o.dst v) w'→K ((putF a sl f).put o.dst v) w')→Cov (Oper.wpIn F n P o (putF a sl f) w K Q)):StepF F n P ops Q R a sl i o:=by
 subst hb
 refine ⟨hd,fun l f w hR hn hb K hK=>?_⟩
 obtain ⟨hw,h2⟩:=h l f w hR hn hb
 rw [if_pos hw]
 exact (h2 K hK).out
theorem StepF.skipped {R:Array Bool→(Nat→Value)→World→Prop}{a:Act}{sl:List Nat}{i:Nat}{o:Oper}(bs:List Nat)(hb:befores o=bs)(hd:∀d,o.dst=some d→d∈sl)(hF:∀f,F.fn f)
  (h:∀l f w,R l f w→¬ Lst l i→(∀j∈bs,Lst l j)→Region.wanted o (yielded ops (putF a sl f).tmps)=false∧R (l.setIfInBounds i true) (upd f o.dst undef) w):StepF F n P ops Q R a sl i o:=by
 subst hb
 refine ⟨hd,fun l f w hR hn hb K hK=>?_⟩
 obtain ⟨hw,h2⟩:=h l f w hR hn hb
 rw [if_neg (by rw [hw];decide)]
 exact ⟨fun f' _=>hF f',hK.out _ _ h2⟩
def StepsF (F:Fence) (n:Nat) (P:Program) (ops:Array Oper) (Q:Exit→Act→World→Prop) (R:Array Bool→(Nat→Value)→World→Prop) (a:Act) (sl:List Nat):Nat→List Oper→Prop
 |_,[]=>True
 |i,o::rest=>StepF F n P ops Q R a sl i o∧StepsF F n P ops Q R a sl (i+1) rest
theorem StepsF.nil {R:Array Bool→(Nat→Value)→World→Prop}{a:Act}{sl:List Nat}{i:Nat} :StepsF F n P ops Q R a sl i []:=trivial
theorem StepsF.cons {R:Array Bool→(Nat→Value)→World→Prop}{a:Act}{sl:List Nat}{i:Nat}{o:Oper}{rest:List Oper}(i':Nat)(hi:i+1=i')(h:StepF F n P ops Q R a sl i o)(hs:StepsF F n P ops Q R a sl i' rest):StepsF F n P ops Q R a sl i (o::rest):=by
 subst hi;exact ⟨h,hs⟩
theorem StepsF.at {R:Array Bool→(Nat→Value)→World→Prop}{a:Act}{sl:List Nat} :∀(rest:List Oper) (i:Nat),StepsF F n P ops Q R a sl i rest→∀j o,rest[j]?=some o→StepF F n P ops Q R a sl (i+j) o:=by
 intro rest
 induction rest with
 |nil=>intro i _ j o h;simp at h
 |cons x rest ih=>
  intro i hs j o h
  cases j with
  |zero=>simp at h;subst h;exact hs.1
  |succ j=>
   have:=ih (i+1) hs.2 j o (by simpa using h)
   rw [show i+(j+1)=i+1+j by omega]
   exact this
theorem wpIn_region_inv {id:Nat}{a:Act}{w:World}{lo:List Oper}(sl:List Nat)(R:Array Bool→(Nat→Value)→World→Prop)(hm:P.follows .mixedOrders=true)(hnd:sl.Nodup)(ht:topoB lo.toArray=true)(hsz:∀s∈sl,s < a.tmps.size)
  (h0:∀l,l.size=lo.length→(∀i,¬ Lst l i)→R l (fun s=>a.tmps.getD s undef) w.drew) (hs:StepsF F n P lo.toArray Q R a sl 0 lo)
  (he:∀l f w,R l f w→(∀i,i < lo.length→Lst l i)→Q .normal (putF a sl f) w):(Code.region id lo.toArray true).wpIn F n P Q a w:=by
 refine wpIn_region_any hm ?_
 have hS:StepsFI F n P lo.toArray Q R a sl (List.range lo.toArray.size):=by
  intro i hi o ho l f w hR hn hb
  have ho':lo[i]?=some o:=by simpa using ho
  obtain ⟨hd,h⟩:=StepsF.at lo 0 hs i o ho'
  rw [Nat.zero_add] at h
  exact ⟨hd,wpOpIn_step ho (fun K' hK=>h l f w hR hn hb K' (zH fun v w' hR'=>hK _ _ ⟨v,rfl,hR'⟩))⟩
 have h:=wpAnyIn_inv (F:=F) (n:=n) (P:=P) (Q:=Q) hnd ht hS (fun l f w hR hall=>he l f w hR fun i hi=>hall i (by simpa using hi)) lo.toArray.size (Array.replicate lo.toArray.size false) (fun s=>a.tmps.getD s undef) w.drew (by simp) (by simp) (h0 _ (by simp) fun i=>by unfold Lst;rw [Array.getD_eq_getD_getElem?,Array.getElem?_replicate];split<;>simp)
 rw [putF_self a sl hsz] at h
 exact h
end
end
end Go.Proofs.YtinlmkhlgclbfabDoor
