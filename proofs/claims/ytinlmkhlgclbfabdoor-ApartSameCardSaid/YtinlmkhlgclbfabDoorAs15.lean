/- RdOk to KeepG -/
import Derived.Test.YtinlmkhlgclbfabDoorAs14
import Derived.StillTail
import Derived.TacticsIn
section
namespace Go.Proofs.YtinlmkhlgclbfabDoor
open Go.RowKit
end Go.Proofs.YtinlmkhlgclbfabDoor
end

section
namespace Go.Proofs.YtinlmkhlgclbfabDoor
open Go.RowKit
set_option maxRecDepth 100000
set_option maxHeartbeats 4000000
theorem relAt_rng {c:TCfg}{dom:Int}{d:TDom}(hc:CfgOk c)(hd:DomOkW c dom d){k:Nat}(hk:k < c.tasks.length):0≤relAt c k d∧relAt c k d≤5000*100000:=by
 have h1:=(hc.task k hk).2.1
 have h2:=hd.rel k (by rw [hd.lrel];exact hk)
 unfold relAt
 exact ⟨Int.mul_nonneg (by omega) h2.1,Int.mul_le_mul h1.2 h2.2 h2.1 (by omega)⟩
theorem IsDue.due {c:TCfg}{dom:Int}{d:TDom}(hc:CfgOk c)(hd:DomOkW c dom d){v:Int}{p:Nat→Prop}(hp:∀t,p t↔t < c.tasks.length)(h:IsDue c dom d p v):v=dueOf c dom d:=by
 have h2:=dueUp_isDue (c:=c) (dom:=dom) (d:=d) c.tasks.length (fun t ht=>(relAt_rng hc hd ht).1)
 have:p=fun t=>t < c.tasks.length:=by funext t;exact propext (hp t)
 subst this
 exact h.unique h2
end Go.Proofs.YtinlmkhlgclbfabDoor
end

section
namespace Go.Proofs.YtinlmkhlgclbfabDoor
open Go.RowKit Go.Shelf
attribute [local go_sem] Oper.semAt_some
set_option maxRecDepth 100000
set_option maxHeartbeats 4000000
theorem below_putObj {B:Nat}{a w:World}(h:Below B a w){k:Nat}(hk:B≤k)(o:Obj):Below B a (w.putObj k o):=
 h.trans ⟨rfl,rfl,rfl,by simp,fun j hj=>World.putObj_heap_other (by omega)⟩
theorem mem_mineTo {c:TCfg}{m:Int}{i t:Nat} :t∈mineTo c m i↔t < i∧(nth c.tasks t).dom=m:=by
 unfold mineTo;simp
theorem IsDue.mine {c:TCfg}{m:Int}{d:TDom}{v:Int}(h:IsDue c m d (fun t=>t∈mineTo c m c.tasks.length) v):IsDue c m d (fun t=>t < c.tasks.length) v:=by
 rcases h with ⟨rfl,h⟩|⟨t,h1,h2,h3,h4,h5⟩
 ·refine .inl ⟨rfl,fun t ht hd=>?_⟩
  exact h t (mem_mineTo.2 ⟨ht,hd⟩) hd
 ·exact .inr ⟨t,(mem_mineTo.1 h1).1,h2,h3,h4,fun u hu hdu=>h5 u (mem_mineTo.2 ⟨hu,hdu⟩) hdu⟩
structure SoonI (w:World) (gk:Nat) (c:TCfg) (m:Int) (d:TDom) (pre:List Nat) (W:World):Prop where
 all:Below w.heap.size w W∧∃v,W.heap[w.heap.size]?=some (.cells #[.pointer (some ⟨gk,0,none⟩)] 134)∧W.heap[w.heap.size+1]?=some (.cells #[.int .i64 v] 3)∧IsDue c m d (fun t=>t∈pre) v
theorem keeperSoon (gk:Nat)(G:Nat→Nat→Prop)(B:Nat)(w:World)(c:TCfg)(S:TCfgS)(m:Int)(d:TDom)(T:TDomS)(h:Kp gk G B w c S m d T)(hc:CfgOk c)(hd:DomOkW c m d):
  Calls Tryd.prog 85 #[.pointer (some ⟨gk,0,none⟩)] w fun e w'=>e= .returned (.int .i64 (dueOf c m d))∧Below w.heap.size w w':=by
 have HN:=zH (fun W (hb:Below w.heap.size w W) i (hi:i < c.tasks.length)=>keeperNext gk G B W c S m d T (h.ext hb) i hi (by rw [hd.lrel];exact hi) (by have:=(hc.task i hi).2.1;omega) (hd.rel i (by rw [hd.lrel];exact hi)) hc.ntasks)
 have HK:=zH (fun W (hb:Below w.heap.size w W)=>h.ext hb)
 have HR:=zH (fun i (hi:i < c.tasks.length)=>relAt_rng hc hd hi)
 have HE:=zH (fun v h=>IsDue.due (v:=v) (p:=fun t=>t < c.tasks.length) hc hd (fun _=>Iff.rfl) h)
 have h6:=hc.ntasks
 have hz:=(blk h.blk).2.2
 clear h hc hd
 refine (callsIn_wide (n:=5)).1 ?_
 refine callsIn_of_wp_marks Tryd.func85 rfl trivial ?_ rfl
 simp only [Tryd.ntmps85,List.size_toArray,List.length_cons,List.length_nil,Nat.reduceAdd,Nat.reduceSub,Array.replicate_succ,Array.replicate_zero,List.push_toArray,List.append_toArray,List.nil_append,List.cons_append]
 gi_wp2
 refine wpIn_rangeB rfl (by omega) (gf:=80) (fb:=#[.pointer (some ⟨gk,0,none⟩)]) rfl trivial (enters_of Tryd.func80 (by kernel_rfl) rfl) (mineIt _ (by omega) gk B c S m h6) (fun _=>rfl)
  (SoonI w gk c m d) ?hRd ?hext ?hput ?h0
  (fun i=>{tmps:=#[.pointer (some ⟨gk,0,none⟩),.pointer (some ⟨w.heap.size,0,none⟩),.int .i64 0,.pointer (some ⟨w.heap.size+1,0,none⟩),.int .i64 i,undef,.pointer (some ⟨gk,0,none⟩),.func (.func 80) #[.pointer (some ⟨gk,0,none⟩)] #[],.int .i64 i,undef,undef,undef,undef,undef,undef,undef,undef,undef,undef,undef,undef],defers:=[]}) ?assign ?body ?done
 case hRd=>exact fun pre A h=>⟨G,d,T,HK.out A h.all.1⟩
 case hext=>
  rintro pre A A' ⟨⟨hb,v,h1,h2,h3⟩⟩ hx
  exact ⟨⟨hb.trans (hx.mono hb.size),v,(hx.block _ (blk h1).2.2).trans h1,(hx.block _ (blk h2).2.2).trans h2,h3⟩⟩
 case hput=>
  rintro pre A o ⟨⟨hb,v,h1,h2,h3⟩⟩
  exact ⟨⟨below_putObj hb (by simp;omega) _,v,(World.putObj_heap_other (by simp<;>omega)).trans h1,(World.putObj_heap_other (by simp<;>omega)).trans h2,h3⟩⟩
 case h0=>
  intro W1 hW1 hb
  refine ⟨⟨Below.trans (byB) (hb.mono (by simp;omega)),-1,(hb.block _ byS).trans byH,(hb.block _ byS).trans byH,IsDue.start _ _ _ _ (by simp)⟩⟩
 case assign=>
  intro l x W K hK
  gi_wp2
  exact hK
 case body=>
  rintro pre x W ⟨hx,hxm⟩ hsz ⟨⟨hb,v,h1,h2,h3⟩⟩ hlen
  have hr:=HR.out x hx
  obtain ⟨c1,f1,z1⟩:=blk h1
  obtain ⟨c2,f2,z2⟩:=blk h2
  simp at hsz
  have hbw:=hb.size
  gi_wp2_with (refine ⟨trivial,?_⟩;gi_at_call 81;refine (CallsIn.inRound _ (callsIn_wide.2 (HN.out W hb x hx))).mono ?_;rintro e w2 ⟨rfl,n2,rfl⟩)
  ·exact ⟨heap_set_far rfl byS,heap_set_far rfl byS,⟨⟨byB,relAt c x d,byH,(heap_set_same (w:=W.drewN n2) h2).trans (by simp [Array.setIfInBounds]),h3.take (fun t=>by simp) hxm hr.1 (by omega)⟩⟩⟩
  ·exact ⟨⟨byB,v,byH,byH,h3.stay (k:=x) (fun t=>by simp) (by omega) (by omega)⟩⟩
  ·exact ⟨heap_set_far rfl byS,heap_set_far rfl byS,⟨⟨byB,relAt c x d,byH,(heap_set_same (w:=W.drewN n2) h2).trans (by simp [Array.setIfInBounds]),h3.take (fun t=>by simp) hxm hr.1 (by omega)⟩⟩⟩
 case done=>
  rintro xs W rfl ⟨⟨hb,v,h1,h2,h3⟩⟩ hk hsz
  have hv:=HE.out v h3.mine
  obtain ⟨c1,f1,z1⟩:=blk h1
  obtain ⟨c2,f2,z2⟩:=blk h2
  gi_wp2
  refine ⟨by simp,.inl ⟨_,_,rfl,run_takeDeferred hk,?_⟩⟩
  refine ⟨_,results_tmp rfl _ _ _,by simp [Act.eval],below_putObj hb (by simp;omega) _⟩
end Go.Proofs.YtinlmkhlgclbfabDoor
end

section
namespace Go.Proofs.YtinlmkhlgclbfabDoor
open Go.RowKit
theorem wpIn_of_wpOp {n l:Nat}{P:Program}{Q:Exit→Act→World→Prop}{o:Oper}{a:Act}{w:World}{K:Act→World→Prop}(ho:∀c,o.op≠ .defer c)(h:o.wp P a w K Q):o.wpIn (Fence.wide.inRound l) n P a w K Q:=by
 refine ⟨fun _ _=>trivial,?_⟩
 rw [Oper.semAt_eq _ _ _ ho]
 unfold Oper.wp at h
 generalize (execOp a.eval o).run P w=r at*
 cases r with
 |ok x w'=>
  cases x with
  |value v=>exact h
  |skip=>exact h
  |defer d=>exact h
  |enter f args=>exact ⟨fun h0=>(by cases h0),CallsIn.inRound l (callsIn_wide.2 h)⟩
  |row r args=>
   refine ⟨fun h0=>(by cases h0),fun c cs _=>?_⟩
   obtain ⟨v,w2,h1,h2⟩:=h c cs
   exact ⟨v,w2,h1,stepsIn_wide.2 h2⟩
  |_=>exact h.elim
 |halt x w'=>
  cases x with
  |panic v=>exact h
  |_=>exact h.elim
def noDefer (l:List Oper):Bool:=l.all fun o=>match o.op with| .defer _=>false|_=>true
theorem noDefer_at {l:List Oper}(h:noDefer l=true){i:Nat}{o:Oper}(hi:l[i]?=some o):∀c,o.op≠ .defer c:=by
 intro c hc
 have:=List.all_eq_true.1 h o (List.mem_of_getElem? hi)
 rw [hc] at this
 cases this
theorem wpAnyIn_of_wpAny {n r:Nat}{P:Program}{Q:Exit→Act→World→Prop}{lo:List Oper}(hd:noDefer lo=true)(hQ:¬ LetsOut Q):
  ∀(fuel:Nat) (l:Array Bool) (a:Act) (w:World),wpAny P .any lo.toArray Q fuel l a w→wpAnyIn (Fence.wide.inRound r) n P .any lo.toArray Q fuel l a w:=by
 intro fuel
 induction fuel with
 |zero=>exact fun l a w h=>h
 |succ fuel ih=>
  intro l a w h
  refine ⟨h.1,fun i hi=>?_⟩
  have h2:=h.2 i hi
  unfold wpOp at h2
  unfold wpOpIn
  cases ho:lo.toArray[i]? with
  |none=>
   rw [ho] at h2
   exact ih _ _ _ h2
  |some o=>
   rw [ho] at h2
   dsimp only at h2⊢
   by_cases hw:Region.wanted o (yielded lo.toArray a.tmps)=true
   ·rw [if_pos hw] at h2⊢
    rcases h2 with h2|⟨_,h2⟩
    ·exact Oper.wpIn_mono (fun a w h=>ih _ a w h) (wpIn_of_wpOp (noDefer_at hd (by simpa using ho)) h2)
    ·exact absurd h2 hQ
   ·rw [if_neg hw] at h2⊢
    exact ⟨fun _ _=>trivial,ih _ _ _ h2⟩
theorem wpR_region_inv {n r:Nat}{P:Program}{Q:Exit→Act→World→Prop}{id:Nat}{a:Act}{w:World}{lo:List Oper}(sl:List Nat)(R:Array Bool→(Nat→Value)→World→Prop)(hm:P.follows .mixedOrders=true)(hnd:sl.Nodup)(ht:topoB lo.toArray=true)(hd:noDefer lo=true)(hQ:¬ LetsOut Q)(hsz:∀s∈sl,s < a.tmps.size)
  (h0:∀l,l.size=lo.length→(∀i,¬ Lst l i)→R l (fun s=>a.tmps.getD s undef) w.drew) (hs:StepsL P R a sl 0 lo)
  (he:∀l f w,R l f w→(∀i,i < lo.length→Lst l i)→Q .normal (putF a sl f) w):(Code.region id lo.toArray true).wpIn (Fence.wide.inRound r) n P Q a w:=by
 refine wpIn_region_any hm (wpAnyIn_of_wpAny hd hQ _ _ _ _ ?_)
 have hS:StepsI P lo.toArray Q R a sl (List.range lo.toArray.size):=by
  intro i hi o ho l f w hR hn hb
  have ho':lo[i]?=some o:=by simpa using ho
  obtain ⟨hd,h⟩:=StepsL.at lo 0 hs i o ho'
  rw [Nat.zero_add] at h
  refine ⟨hd,wpOp_step ho (fun K' hK=>?_)⟩
  obtain ⟨hg,hw⟩:=h l f w hR hn hb K' Q (zH fun v w' hR'=>hK _ _ ⟨v,rfl,hR'⟩)
  have hwt:Region.wanted o (yielded lo.toArray (putF a sl f).tmps)=true:=by simp [Region.wanted,hg]
  rw [if_pos hwt]
  exact hw
 have h:=wpAny_inv (P:=P) (Q:=Q) hnd ht hS (fun l f w hR hall=>he l f w hR fun i hi=>hall i (by simpa using hi)) lo.toArray.size (Array.replicate lo.toArray.size false) (fun s=>a.tmps.getD s undef) w.drew (by simp) (by simp) (h0 _ (by simp) fun i=>by unfold Lst;rw [Array.getD_eq_getD_getElem?,Array.getElem?_replicate];split<;>simp)
 rw [putF_self a sl hsz] at h
 exact h
theorem wpR_region_quiet {n r:Nat}{P:Program}{id:Nat}{Q:Exit→Act→World→Prop}{a:Act}{w:World}{l:List Oper}(hm:P.follows .mixedOrders=true)(hd:noDefer l=true)(hQ:¬ LetsOut Q)(hB:Region.lexB .any l.toArray=true)
  (h:wpQuiet P l.toArray (fun w'=>∃k,w'=w.drewN k) (fun a'=>∀w',(∃k,w'=w.drewN k)→Q .normal a' w') l a):(Code.region id l.toArray true).wpIn (Fence.wide.inRound r) n P Q a w:=by
 simp only [Region.lexB,Bool.and_eq_true] at hB
 have walk:=wpAnyQ_lex (C:=fun w'=>∃k,w'=w.drewN k) (md:= .any) hB.1 l 0 (Array.replicate l.toArray.size false) a (by simp) (by simpa using hB.2) h
 refine wpIn_region_any hm (wpAnyIn_of_wpAny hd hQ _ _ _ _ (wpAny_of_quiet (C:=fun w'=>∃k,w'=w.drewN k) (Q:=fun a'=>∀w',(∃k,w'=w.drewN k)→Q .normal a' w') (fun _ w' hw' h=>h w' hw') _ _ _ _ ⟨1,rfl⟩ ?_))
 simpa using walk
theorem wpR_region_still_tail {n r:Nat}{P:Program}{id:Nat}{Q:Exit→Act→World→Prop}{a:Act}{w:World}{l:List Oper}(k:Nat)(hm:P.follows .mixedOrders=true)(hd:noDefer l=true)(hQ:¬ LetsOut Q)(hB:Region.lexTailB .any l.toArray k=true)
  (h:wpStill P l.toArray w.drew (fun a'=>wpList P l.toArray Q (l.drop k) a' w.drew) (l.take k) a):(Code.region id l.toArray true).wpIn (Fence.wide.inRound r) n P Q a w:=by
 refine wpIn_region_any hm (wpAnyIn_of_wpAny hd hQ _ _ _ _ ?_)
 simp only [Region.lexTailB,Bool.and_eq_true,decide_eq_true_eq] at hB
 obtain ⟨⟨⟨⟨hsel,hlt⟩,hst⟩,hcl⟩,hlx⟩:=hB
 have hlt':k < l.length:=by simpa using hlt
 have htk:(l.take k).length=k:=by simp;omega
 have hdr:(l.drop k).length=l.toArray.size - k:=by simp
 have start:HeadInv .any l.toArray k (Array.replicate l.toArray.size false):=
  ⟨by simp,fun _ _ _ hl=>(by rw [getD_replicate_false] at hl;cases hl),fun t _ ht=>getD_in (by simpa using ht) (getD_replicate_false _ _)⟩
 have head:=wpAnyL_lex (md:= .any) (g:=l.toArray.size - k) hsel hst hcl hlt (l.take k) 0 _ a
  (fun j hj=>by have hj':j < k:=(by rw [htk] at hj;exact hj);simp [hj']) (by simpa using htk) start (by rw [htk];exact hlx) h
 have whole:=wpAny_of_head (Q':=Q) (g:=l.toArray.size - k) (fun listed a' hL=>by
  have tail:=wpAny_of_seq (md:= .any) (Q':=Q) (l.drop k) k listed a' w.drew (fun j=>by simp [List.getElem?_drop]) (by rw [hdr];exact hL.1) hL.2
  rwa [hdr] at tail) _ _ _ head
 rw [htk,show k+(l.toArray.size - k)=l.toArray.size by omega] at whole
 exact whole
end Go.Proofs.YtinlmkhlgclbfabDoor
end

section
namespace Go.Proofs.YtinlmkhlgclbfabDoor
open Go.RowKit
set_option maxRecDepth 100000
set_option maxHeartbeats 4000000
theorem kp_jobs (gk:Nat)(G:Nat→Nat→Prop)(B:Nat)(w:World)(c:TCfg)(S:TCfgS)(m:Int)(d:TDom)(T:TDomS)(h:Kp gk G B w c S m d T)(j:TJob){A:Option Addr}{cc:Nat}{w3:World}{o:Obj}
    (hown:ownsZ w3 74 6 (.slice A (d.jobs.length+1) cc) (d.jobs.length+1) (d.jobs.flatMap TJob.cells++j.cells)) (hg:(w.alloc o).grownBy w3 (rowZ (.slice T.a0 d.jobs.length T.n0)))
    (hat:∀b,rowZ (.slice A (d.jobs.length+1) cc)=some b→rowZ (.slice T.a0 d.jobs.length T.n0)=some b∨b=(w.alloc o).heap.size):
    Kp gk (addG G 0 w.heap.size w3.heap.size) B (w3.setCell ⟨gk,10,none⟩ (.slice A (d.jobs.length+1) cc)) c S m {d with jobs:=d.jobs++[j]} {T with a0:=A,n0:=cc} ∧
    KEff gk B G (addG G 0 w.heap.size w3.heap.size) w (w3.setCell ⟨gk,10,none⟩ (.slice A (d.jobs.length+1) cc)):=by
  have hz:=(blk h.blk).2.2
  have hs3:=hg.size
  simp at hs3
  have hrow:∀b,rowZ (.slice T.a0 d.jobs.length T.n0)=some b→G 0 b:=(ozl_flat.1 h.dom.o0).2
  have hold:∀b,b < w.heap.size→(¬ G 0 b)→w3.heap[b]?=w.heap[b]?:=fun b hb hn=>
    (hg.block b (by simp;omega) (fun e=>hn (hrow b e.symm))).trans (heap_alloc_old _ _ hb)
  have hD:=(h.dom.keep (w':=w.alloc o) (fun i b hb=>heap_alloc_old _ _ (h.dom.lt i b hb)) (by simp)).jobs (w1:=w3) [j] (by simp) (by simpa using hown) hg hat
  have hD2:DomO (addG G 0 w.heap.size w3.heap.size) w3 {d with jobs:=d.jobs++[j]} {T with a0:=A,n0:=cc} :=
    hD.more (fun i b hb => by rcases hb with hb | hb
                              · exact .inl hb
                              · exact .inr ⟨hb.1,by have:=hb.2.1;simp at this;omega,hb.2.2⟩) (addG_dis h.dom.dis h.dom.lt) (fun i b hb=>by
      rcases hb with hb|hb
      · have:=h.dom.lt i b hb;omega
      · exact hb.2.2)
  have hap:∀i,¬ addG G 0 w.heap.size w3.heap.size i gk:=fun i hb=>by
    rcases hb with hb|hb
    · exact (h.apart i gk hb).1 rfl
    · omega
  refine ⟨⟨?_,?_,hD2.setCell hap,fun i b hb=>?_,h.lo⟩,⟨?_,fun b hb hne hn=>?_,fun i b hb=>?_⟩⟩
  · have hk:=(hold gk hz (fun hb=>(h.apart 0 gk hb).1 rfl)).trans h.blk
    refine (heap_set_same hk).trans ?_
    simp [Array.setIfInBounds]
  · refine h.cfg.keep fun b hb=>?_
    have hb:b < B:=hb
    have:=h.lo
    exact heap_set_far (hold b (by omega) (fun e=>by have:=(h.apart 0 b e).2;omega)) (by simp;omega)
  · rcases hb with hb|hb
    · exact h.apart i b hb
    · have:=h.lo;omega
  · have:=h.lo
    refine Below.setCell (Below.grown (w:=w.alloc o) (Below.alloc (Below.refl _ _) (by omega) _) hg (by simp;omega) (fun k hk=>(h.apart 0 k (hrow k hk)).2)) (by simp;omega) _
  · exact heap_set_far (hold b hb (hn 0)) (by simp;exact hne)
  · rcases hb with hb|hb
    · exact .inl hb
    · exact .inr ⟨hb.2.1,by simpa using hb.2.2⟩
theorem kp_cell {gk:Nat}{G:Nat→Nat→Prop}{B:Nat}{w:World}{c:TCfg}{S:TCfgS}{m:Int}{d d':TDom}{T:TDomS}(h:Kp gk G B w c S m d T){k g o:Nat}{u:Value}(hG:G k g)
  (hd:DomO G (w.setCell ⟨g,o,none⟩ u) d' T) (e1:d'.jobs.length=d.jobs.length) (e2:d'.released.length=d.released.length) (e3:d'.next=d.next) (e4:d'.ins.length=d.ins.length) (e5:d'.taken.length=d.taken.length) (e6:d'.outs.length=d.outs.length) (e7:d'.events.length=d.events.length):
  Kp gk G B (w.setCell ⟨g,o,none⟩ u) c S m d' T∧KEff gk B G G w (w.setCell ⟨g,o,none⟩ u):=by
 have hap:=h.apart k g hG
 have hlo:=h.lo
 refine ⟨⟨?_,h.cfg.keep fun b hb=>?_,hd,h.apart,h.lo⟩,⟨Below.setCell (Below.refl _ _) hap.2 _,fun b hb hne hn=>heap_set_far rfl (fun e=>hn k (e ▸ hG)),fun i b hb=> .inl hb⟩⟩
 ·rw [e1,e2,e3,e4,e5,e6,e7]
  exact heap_set_far h.blk (Ne.symm hap.1)
 ·have hb:b < B:=hb
  exact heap_set_far rfl (by show b≠g;omega)
theorem kp_rel {gk:Nat}{G:Nat→Nat→Prop}{B:Nat}{w:World}{c:TCfg}{S:TCfgS}{m:Int}{d:TDom}{T:TDomS}(h:Kp gk G B w c S m d T){i:Nat}(hi:i < d.released.length):
  ∃g,T.a1=some ⟨g,0,none⟩∧G 1 g∧g < w.heap.size∧w.cell? ⟨g,i,none⟩=some (.int .i64 (nth d.released i))∧(∀o,w.frozen? ⟨g,o,none⟩=false)∧
   ∀x:Int,Kp gk G B (w.setCell ⟨g,i,none⟩ (.int .i64 x)) c S m {d with released:=d.released.set i x} T∧KEff gk B G G w (w.setCell ⟨g,i,none⟩ (.int .i64 x)):=by
 obtain ⟨g,e,hG,hg,hc,hf,hs⟩:=h.dom.released hi
 exact ⟨g,e,hG,hg,hc,hf,fun x=>kp_cell h hG (hs x) rfl (by simp) rfl rfl rfl rfl rfl⟩
theorem kp_miss {gk:Nat}{G:Nat→Nat→Prop}{B:Nat}{w:World}{c:TCfg}{S:TCfgS}{m:Int}{d:TDom}{T:TDomS}(h:Kp gk G B w c S m d T){i:Nat}(hi:i < d.jobs.length):
  ∃g,T.a0=some ⟨g,0,none⟩∧G 0 g∧g < w.heap.size∧(∀j u,(nth d.jobs i).cells[j]?=some u→w.cell? ⟨g,i*6+j,none⟩=some u)∧(∀o,w.frozen? ⟨g,o,none⟩=false)∧
   Kp gk G B (w.setCell ⟨g,i*6+5,none⟩ (.bool true)) c S m {d with jobs:=d.jobs.set i {nth d.jobs i with missed:=true} } T∧KEff gk B G G w (w.setCell ⟨g,i*6+5,none⟩ (.bool true)):=by
 obtain ⟨g,e,hG,hg,hc,hf,hs⟩:=h.dom.job hi
 exact ⟨g,e,hG,hg,hc,hf,kp_cell h hG (hs 5 (.bool true) {nth d.jobs i with missed:=true} (by omega) rfl) (by simp) rfl rfl rfl rfl rfl rfl⟩
theorem Kp.put {gk:Nat}{G:Nat→Nat→Prop}{B:Nat}{w:World}{c:TCfg}{S:TCfgS}{m:Int}{d:TDom}{T:TDomS}(h:Kp gk G B w c S m d T){k:Nat}(hne:k≠gk)(hG:∀i,¬ G i k)(hB:B≤k)(o:Obj):Kp gk G B (w.putObj k o) c S m d T:=
 ⟨(World.putObj_heap_other (by omega)).trans h.blk,h.cfg.keep fun b hb=>World.putObj_heap_other (by have hb:b < B:=hb;omega),h.dom.keep (fun i b hb=>World.putObj_heap_other (fun e=>hG i (e ▸ hb))) (by simp),h.apart,h.lo⟩
structure Cm (w:World) (gk:Nat) (G:Nat→Nat→Prop) (B:Nat) (c:TCfg) (S:TCfgS) (m now:Int) (a1:Option Addr) (d:TDom) (W:World):Prop where
 all:∃G' T,Kp gk G' B W c S m d T∧KEff gk B G G' w W∧(∀i b,G' i b→G i b∨w.heap.size+4≤b)∧T.a1=a1
 box0:W.heap[w.heap.size]?=some (.cells #[.pointer (some ⟨gk,0,none⟩)] 134)
 box1:W.heap[w.heap.size+1]?=some (.cells #[.int .i64 now] 3)
 size:w.heap.size+4≤W.heap.size
 gk_lt:gk < w.heap.size
 lo:B≤gk
 lt:∀i b,G i b→b < w.heap.size
 ok:DomOkW c m d
 ev:d.events.length+(20 - d.jobs.length)≤4398046511104 - 20
theorem Cm.ext {w:World}{gk:Nat}{G:Nat→Nat→Prop}{B:Nat}{c:TCfg}{S:TCfgS}{m now:Int}{a1:Option Addr}{d:TDom}{W W':World}(h:Cm w gk G B c S m now a1 d W)(hb:Below W.heap.size W W'):Cm w gk G B c S m now a1 d W':=by
 obtain ⟨⟨G',T,hK,hE,hG,ha⟩,h0,h1,hs,hgk,hlo,hlt,hok,hev⟩:=h
 have:=hb.size
 exact ⟨⟨G',T,hK.ext hb,hE.trans (KEff.ext (by omega) hb),hG,ha⟩,(hb.block _ (by omega)).trans h0,(hb.block _ (by omega)).trans h1,by omega,hgk,hlo,hlt,hok,hev⟩
theorem Cm.put {w:World}{gk:Nat}{G:Nat→Nat→Prop}{B:Nat}{c:TCfg}{S:TCfgS}{m now:Int}{a1:Option Addr}{d:TDom}{W:World}(h:Cm w gk G B c S m now a1 d W){k:Nat}(hk:k=w.heap.size+2∨k=w.heap.size+3)(o:Obj):Cm w gk G B c S m now a1 d (W.putObj k o):=by
 obtain ⟨⟨G',T,hK,hE,hG,ha⟩,h0,h1,hs,hgk,hlo,hlt,hok,hev⟩:=h
 have hn:∀i,¬ G' i k:=fun i hi=>by
  rcases hG i k hi with h|h
  ·have:=hlt i k h;omega
  ·omega
 refine ⟨⟨G',T,hK.put (by omega) hn (by omega) o,⟨below_putObj hE.below (by omega) o,fun b hb hne hnn=>(World.putObj_heap_other (by omega)).trans (hE.keep b hb hne hnn),fun i b hb=>?_⟩,hG,ha⟩,(World.putObj_heap_other (by omega)).trans h0,(World.putObj_heap_other (by omega)).trans h1,by simpa using hs,hgk,hlo,hlt,hok,hev⟩
 simpa using hE.grow i b hb
theorem Cm.turn {w:World}{gk:Nat}{G G' G'':Nat→Nat→Prop}{B:Nat}{c:TCfg}{S:TCfgS}{m now:Int}{a1:Option Addr}{d d':TDom}{W W':World}{T':TDomS}(h:Cm w gk G B c S m now a1 d W)(hE0:KEff gk B G G' w W)(hG0:∀i b,G' i b→G i b∨w.heap.size+4≤b)
  (hK:Kp gk G'' B W' c S m d' T') (hE:KEff gk B G' G'' W W') (ha:T'.a1=a1) (hok:DomOkW c m d') (hev:d'.events.length+(20 - d'.jobs.length)≤4398046511104 - 20):
  Cm w gk G B c S m now a1 d' W'∧(∀b,w.heap.size≤b→b < w.heap.size+4→W'.heap[b]?=W.heap[b]?)∧W.heap.size≤W'.heap.size∧KEff gk B G G'' w W'∧(∀i b,G'' i b→G i b∨w.heap.size+4≤b):=by
 have hs:=h.size
 have hgk:=h.gk_lt
 have hz:=hE.below.size
 have hG2:∀i b,G'' i b→G i b∨w.heap.size+4≤b:=fun i b hb=>by
  rcases hE.grow i b hb with h1|h1
  ·exact hG0 i b h1
  ·omega
 have hkeep:∀b,w.heap.size≤b→b < w.heap.size+4→W'.heap[b]?=W.heap[b]?:=fun b h1 h2=>hE.keep b (by omega) (by omega) fun i hi=>by
  rcases hG0 i b hi with h3|h3
  ·have:=h.lt i b h3;omega
  ·omega
 exact ⟨⟨⟨G'',T',hK,hE0.trans hE,hG2,ha⟩,(hkeep _ (by omega) (by omega)).trans h.box0,(hkeep _ (by omega) (by omega)).trans h.box1,by omega,hgk,h.lo,h.lt,hok,hev⟩,hkeep,hz,hE0.trans hE,hG2⟩
def relPre (c:TCfg) (now:Int) (pre:List Nat) (d:TDom):TDom:=pre.foldl (fun s t=>relLoop c t now (relFuel t s) s) d
theorem relPre_snoc (c:TCfg)(now:Int)(pre:List Nat)(t:Nat)(d:TDom):relPre c now (pre++[t]) d=relLoop c t now (relFuel t (relPre c now pre d)) (relPre c now pre d):=by
 unfold relPre;rw [List.foldl_append];rfl
theorem relPre_upTo (c:TCfg)(m now:Int)(d:TDom):∀i,relPre c now (mineTo c m i) d=upTo (relTask c m now) i 0 d:=by
 intro i
 induction i with
 |zero=>rfl
 |succ i ih=>
  rw [upTo_last,Nat.zero_add,← ih]
  by_cases h:(nth c.tasks i).dom=m
  ·rw [mineTo_hit h,relPre_snoc];unfold relTask;rw [if_pos h]
  ·rw [mineTo_miss h];unfold relTask;rw [if_neg h]
theorem relPre_mine (c:TCfg)(m now:Int)(d:TDom):relPre c now (mineTo c m c.tasks.length) d=relAll c m now d:=relPre_upTo c m now d _
def relM (a1:Option Addr) (x:Nat) (W:World):Nat:=match a1 with|some ⟨g,_,_⟩=>(100000 - intOf ((W.cell? ⟨g,x,none⟩).getD undef)).toNat|none=>0
structure InR (w W0:World) (gk:Nat) (G:Nat→Nat→Prop) (B:Nat) (c:TCfg) (S:TCfgS) (m now:Int) (a1:Option Addr) (x:Nat) (tgt:TDom) (wr:World):Prop where
 all:∃d n,relFuel x d≤n∧relLoop c x now n d=tgt∧Cm w gk G B c S m now a1 d wr
 old:∀b,w.heap.size≤b→b < w.heap.size+4→wr.heap[b]?=W0.heap[b]?
 size:W0.heap.size≤wr.heap.size
theorem relM_eq {gk:Nat}{G:Nat→Nat→Prop}{B:Nat}{W:World}{c:TCfg}{S:TCfgS}{m:Int}{d:TDom}{T:TDomS}(h:Kp gk G B W c S m d T){a1:Option Addr}(ha:T.a1=a1){x:Nat}(hx:x < d.released.length):relM a1 x W=(100000 - nth d.released x).toNat:=by
 obtain ⟨g,eg,_,_,hcr,_⟩:=kp_rel h hx
 rw [← ha,eg]
 simp [relM,hcr,intOf]
theorem come_on {w W0 wr W':World}{gk:Nat}{G G1 G3:Nat→Nat→Prop}{B:Nat}{c:TCfg}{S:TCfgS}{m now:Int}{a1:Option Addr}{x n1:Nat}{tgt d1:TDom}{T3:TDomS}(hc:CfgOk c)(hnow:now≤100000)(hx:x < c.tasks.length)(hxm:(nth c.tasks x).dom=m)
  (hn1:relFuel x d1≤n1) (htgt:relLoop c x now n1 d1=tgt) (hC1:Cm w gk G B c S m now a1 d1 wr) (hold:∀b,w.heap.size≤b→b < w.heap.size+4→wr.heap[b]?=W0.heap[b]?) (hsw:W0.heap.size≤wr.heap.size)
  (hE1:KEff gk B G G1 w wr) (hG1:∀i b,G1 i b→G i b∨w.heap.size+4≤b) (hcan:relCan c x now d1=true) (hK3:Kp gk G3 B W' c S m (relStep c x d1) T3) (hE3:KEff gk B G1 G3 wr W') (ha:T3.a1=a1):
  InR w W0 gk G B c S m now a1 x tgt W'∧relM a1 x W' < relM a1 x wr:=by
 have hok:=hC1.ok
 have hxr:x < d1.released.length:=by rw [hok.lrel];exact hx
 have hok':=relStep_ok hc hnow hx hxm hok hcan
 have hxr':x < (relStep c x d1).released.length:=by rw [hok'.lrel];exact hx
 have hev:=hC1.ev
 have hrl:=hok.rel x hxr
 have hcan':=relCan_iff.1 hcan
 obtain ⟨k,rfl,hk⟩:=relLoop_go hn1 hcan
 obtain ⟨hC',hkeep,hsz,_,_⟩:=hC1.turn hE1 hG1 hK3 hE3 ha hok' (by unfold relStep;split<;>simp<;>omega)
 have hrel':nth (relStep c x d1).released x=nth d1.released x+1:=by rw [relStep_released,nth_set_self hxr]
 refine ⟨⟨⟨relStep c x d1,k,?_,hk ▸ htgt,hC'⟩,fun b h1 h2=>(hkeep b h1 h2).trans (hold b h1 h2),Nat.le_trans hsw hsz⟩,?_⟩
 ·unfold relFuel at hn1⊢
  rw [hrel'];omega
 ·obtain ⟨G1',T1,hK1,_,_,ha1⟩:=hC1.all
  rw [relM_eq hK3 ha hxr',relM_eq hK1 ha1 hxr,hrel']
  omega
structure Cm2 (w:World) (gk:Nat) (G:Nat→Nat→Prop) (B:Nat) (c:TCfg) (S:TCfgS) (m now:Int) (d:TDom) (W:World):Prop where
 all:∃G' T,Kp gk G' B W c S m d T∧KEff gk B G G' w W∧(∀i b,G' i b→G i b∨w.heap.size+4≤b)
 box0:W.heap[w.heap.size]?=some (.cells #[.pointer (some ⟨gk,0,none⟩)] 134)
 box1:W.heap[w.heap.size+1]?=some (.cells #[.int .i64 now] 3)
 dfr:W.heap[w.heap.size+2]?=some (.deferred (some []))
 size:w.heap.size+4≤W.heap.size
 gk_lt:gk < w.heap.size
 lo:B≤gk
 lt:∀i b,G i b→b < w.heap.size
 ok:DomOkW c m d
theorem Cm2.of {w:World}{gk:Nat}{G:Nat→Nat→Prop}{B:Nat}{c:TCfg}{S:TCfgS}{m now:Int}{a1:Option Addr}{d:TDom}{W:World}(h:Cm w gk G B c S m now a1 d W)(hd:W.heap[w.heap.size+2]?=some (.deferred (some []))):Cm2 w gk G B c S m now d W:=by
 obtain ⟨⟨G',T,hK,hE,hG,_⟩,h0,h1,hs,hgk,hlo,hlt,hok,_⟩:=h
 exact ⟨⟨G',T,hK,hE,hG⟩,h0,h1,hd,hs,hgk,hlo,hlt,hok⟩
theorem Cm2.turn {w:World}{gk:Nat}{G G' G'':Nat→Nat→Prop}{B:Nat}{c:TCfg}{S:TCfgS}{m now:Int}{d d':TDom}{W W':World}{T':TDomS}(h:Cm2 w gk G B c S m now d W)(hE0:KEff gk B G G' w W)(hG0:∀i b,G' i b→G i b∨w.heap.size+4≤b)
  (hK:Kp gk G'' B W' c S m d' T') (hE:KEff gk B G' G'' W W') (hok:DomOkW c m d'):Cm2 w gk G B c S m now d' W':=by
 have hs:=h.size
 have hgk:=h.gk_lt
 have hz:=hE.below.size
 have hkeep:∀b,w.heap.size≤b→b < w.heap.size+4→W'.heap[b]?=W.heap[b]?:=fun b h1 h2=>hE.keep b (by omega) (by omega) fun i hi=>by
  rcases hG0 i b hi with h3|h3
  ·have:=h.lt i b h3;omega
  ·omega
 refine ⟨⟨G'',T',hK,hE0.trans hE,fun i b hb=>?_⟩,(hkeep _ (by omega) (by omega)).trans h.box0,(hkeep _ (by omega) (by omega)).trans h.box1,(hkeep _ (by omega) (by omega)).trans h.dfr,by omega,hgk,h.lo,h.lt,hok⟩
 rcases hE.grow i b hb with h1|h1
 ·exact hG0 i b h1
 ·omega
end Go.Proofs.YtinlmkhlgclbfabDoor
end
