/- RdOk to WinD -/
import Derived.Test.YtinlmkhlgclbfabWv16
section
namespace Go.Proofs.Ytinlmkhlgclbfab
open Go.RowKit
end Go.Proofs.Ytinlmkhlgclbfab
end

section
namespace Go.Proofs.Ytinlmkhlgclbfab
open Go.RowKit
set_option maxRecDepth 100000
set_option maxHeartbeats 4000000
theorem relAt_rng {c:TCfg}{dom:Int}{d:TDom}(hc:CfgOk c)(hd:DomOkW c dom d){k:Nat}(hk:k < c.tasks.length):0≤relAt c k d∧relAt c k d≤5000*100000:=by
 have h1:=(hc.task k hk).2.1
 have h2:=hd.rel k (by rw [hd.lrel];exact hk)
 unfold relAt
 exact ⟨Int.mul_nonneg (by omega) h2.1,Int.mul_le_mul h1.2 h2.2 h2.1 (by omega)⟩
theorem IsDue.due {c:TCfg}{dom:Int}{d:TDom}(hc:CfgOk c)(hd:DomOkW c dom d){v:Int}{p:Nat→Prop}(hp:∀t,p t↔t < c.tasks.length)(h:IsDue c dom d p v):v=dueOf c dom d:=by
 have h2:=dueUp_isDue (c:=c) (dom:=dom) (d:=d) c.tasks.length (fun t ht=>(relAt_rng hc hd ht).1)
 have:p=fun t=>t < c.tasks.length:=by funext t;exact propext (hp t)
 subst this
 exact h.unique h2
theorem refDueOf (c:TCfg)(S:TCfgS)(dom:Int)(d:TDom)(T:TDomS)(hc:CfgOk c)(hk:DomOkW c dom d)(B:Nat)(w:World)(hB:B≤w.heap.size)(hs:TCfg.At (Low B) w c S)(hd:TDom.At (Low B) w d T):
  Calls Try.prog 75 #[.agg #[.int .i64 c.sets,.int .i64 c.ways,.int .i64 c.doms,.int .i64 c.pad,.int .i64 c.quantum,.slice S.a0 c.slots.length S.n0,.slice S.a1 c.owners.length S.n1,.slice S.a2 c.chans.length S.n2,.slice S.a3 c.tasks.length S.n3],.int .i64 dom,.agg #[.slice T.a0 d.jobs.length T.n0,.slice T.a1 d.released.length T.n1,.int .i64 d.next,.slice T.a2 d.ins.length T.n2,.slice T.a3 d.taken.length T.n3,.slice T.a4 d.outs.length T.n4,.slice T.a5 d.events.length T.n5]] w fun e w'=>e= .returned (.int .i64 (dueOf c dom d))∧Below w.heap.size w w':=by
 have h6:=hc.ntasks
 have hlr:=zH hk.lrel
 have HR:=zH (fun k (h:k < c.tasks.length)=>relAt_rng hc hk h)
 have HE:=zH (fun v (p:Nat→Prop) (hp:∀t,p t↔t < c.tasks.length) h=>IsDue.due (v:=v) hc hk hp h)
 clear hc hk
 go_enter Try.func75,Try.ntmps75
 have hwl:IntKind.i64.wrap ((c.tasks.length:Int) - 1)=(c.tasks.length:Int) - 1:=IntWalk.i64_in _ (by omega)
 go_wp2_with fail
 go_loopw [7,8] (fun dv iv wr=>∃(i v:Int),-1≤i∧i < c.tasks.length∧dv= .int .i64 v∧iv= .int .i64 i∧IsDue c dom d (fun t=>i < t∧t < c.tasks.length) v∧Hid (wr.heap[w.heap.size]?=some (.cells #[.int .i64 c.sets,.int .i64 c.ways,.int .i64 c.doms,.int .i64 c.pad,.int .i64 c.quantum,.slice S.a0 c.slots.length S.n0,.slice S.a1 c.owners.length S.n1,.slice S.a2 c.chans.length S.n2,.slice S.a3 c.tasks.length S.n3] 27)∧wr.heap[w.heap.size+1]?=some (.cells #[.slice T.a0 d.jobs.length T.n0,.slice T.a1 d.released.length T.n1,.int .i64 d.next,.slice T.a2 d.ins.length T.n2,.slice T.a3 d.taken.length T.n3,.slice T.a4 d.outs.length T.n4,.slice T.a5 d.events.length T.n5] 45)∧Below w.heap.size w wr)) (fun dv iv wr=>(intOf iv+1).toNat)
 case atStart=>exact ⟨_,-1,by omega,by omega,rfl,rfl,IsDue.start _ _ _ _ fun t h=>by omega,zH ⟨by exact byH,by exact byH,byB⟩⟩
 case round=>
  obtain ⟨i,v,hi1,hi,rfl,rfl,hdu,hH⟩:=hrel
  obtain ⟨hbx,hby,hbr⟩:=hH.out
  by_cases hlt:0≤i
  ·obtain ⟨k,rfl⟩:=Int.eq_ofNat_of_zero_le hlt
   have hkl:k < c.tasks.length:=by omega
   obtain ⟨b1,o1,e1,hI1,k0,k1,k2,k3⟩:=(hs.next hB hbr).s3.at_task hkl
   obtain ⟨b2,o2,e2,hI2,m0⟩:=(hd.next hB hbr).s1.at_int (k:=k) (by rw [hlr.out];exact hkl)
   have hbx0:=hbx
   have hby0:=hby
   replace hbx0:=zH hbx0
   replace hby0:=zH hby0
   rw [e1] at hbx
   rw [e2] at hby
   clear e1 e2
   obtain ⟨cx,fx,zx⟩:=blk hbx
   obtain ⟨cy,fy,zy⟩:=blk hby
   have hkr:(k:Int) < d.released.length:=by rw [hlr.out];exact_mod_cast hkl
   have hwk:IntKind.i64.wrap ((k:Int) - 1)=(k:Int) - 1:=IntWalk.i64_in _ (by omega)
   have hR:=HR.out k hkl
   have hmul:IntKind.i64.wrap ((nth c.tasks k).period*nth d.released k)=relAt c k d:=IntWalk.i64_in (relAt c k d) (by omega)
   have hq:∀t:Nat,((k:Int) - 1 < t∧t < c.tasks.length)↔((k:Int) < t∧t < c.tasks.length)∨t=k:=fun t=>by omega
   have hrd:(nth c.tasks k).period*nth d.released k=relAt c k d:=rfl
   have hsk:=zH (fun h=>hdu.skip hq h)
   have htk:=zH (fun h h2=>hdu.take hq h hR.1 h2)
   have hst:=zH (fun h h2=>hdu.stay hq h h2)
   generalize relAt c k d=R at*
   by_cases hdm:(nth c.tasks k).dom=dom
   ·by_cases hv0:v < 0
    ·go_wp2_with fail
     go_quiet (fail)
     go_wp2_with fail
     go_roundw
     case rel=>exact ⟨(k:Int) - 1,R,by omega,by omega,rfl,rfl,htk.out hdm (.inl hv0),zH ⟨hbx0.out,hby0.out,below_drewN hbr _⟩⟩
     case measure=>simp [intOf]<;>omega
    ·by_cases hv1:R≤v
     ·go_wp2_with fail
      go_quiet (fail)
      go_wp2_with fail
      go_roundw
      case rel=>exact ⟨(k:Int) - 1,R,by omega,by omega,rfl,rfl,htk.out hdm (.inr hv1),zH ⟨hbx0.out,hby0.out,below_drewN hbr _⟩⟩
      case measure=>simp [intOf]<;>omega
     ·go_wp2_with fail
      go_quiet (fail)
      go_wp2_with fail
      go_roundw
      case rel=>exact ⟨(k:Int) - 1,v,by omega,by omega,rfl,rfl,hst.out (by omega) (by omega),zH ⟨hbx0.out,hby0.out,below_drewN hbr _⟩⟩
      case measure=>simp [intOf]<;>omega
   ·go_wp2_with fail
    go_quiet (fail)
    go_wp2_with fail
    go_roundw
    case rel=>exact ⟨(k:Int) - 1,v,by omega,by omega,rfl,rfl,hsk.out hdm,zH ⟨hbx0.out,hby0.out,below_drewN hbr _⟩⟩
    case measure=>simp [intOf]<;>omega
  ·obtain rfl:i= -1:=by omega
   obtain ⟨cx,fx,zx⟩:=blk hbx
   obtain ⟨cy,fy,zy⟩:=blk hby
   go_wp2_with fail
   refine bodyPost_ret (v:= .int .i64 v) (by simp [results,Try.results75,go_sem, *]) rfl ?_
   exact ⟨by rw [HE.out v _ (fun t=>by omega) hdu],hbr⟩
end Go.Proofs.Ytinlmkhlgclbfab
end

section
namespace Go.Proofs.Ytinlmkhlgclbfab
open Go.RowKit Go.Shelf
attribute [local go_sem] Oper.semAt_some
set_option maxRecDepth 100000
set_option maxHeartbeats 4000000
theorem below_putObj {B:Nat}{a w:World}(h:Below B a w){k:Nat}(hk:B≤k)(o:Obj):Below B a (w.putObj k o):=
 h.trans ⟨rfl,rfl,rfl,by simp,fun j hj=>World.putObj_heap_other (by omega)⟩
theorem mem_mineTo {c:TCfg}{m:Int}{i t:Nat} :t∈mineTo c m i↔t < i∧(nth c.tasks t).dom=m:=by
 unfold mineTo;simp
theorem IsDue.mine {c:TCfg}{m:Int}{d:TDom}{v:Int}(h:IsDue c m d (fun t=>t∈mineTo c m c.tasks.length) v):IsDue c m d (fun t=>t < c.tasks.length) v:=by
 rcases h with ⟨rfl,h⟩|⟨t,h1,h2,h3,h4,h5⟩
 ·refine .inl ⟨rfl,fun t ht hd=>?_⟩
  exact h t (mem_mineTo.2 ⟨ht,hd⟩) hd
 ·exact .inr ⟨t,(mem_mineTo.1 h1).1,h2,h3,h4,fun u hu hdu=>h5 u (mem_mineTo.2 ⟨hu,hdu⟩) hdu⟩
structure SoonI (w:World) (gk:Nat) (c:TCfg) (m:Int) (d:TDom) (pre:List Nat) (W:World):Prop where
 all:Below w.heap.size w W∧∃v,W.heap[w.heap.size]?=some (.cells #[.pointer (some ⟨gk,0,none⟩)] 155)∧W.heap[w.heap.size+1]?=some (.cells #[.int .i64 v] 3)∧IsDue c m d (fun t=>t∈pre) v
theorem keeperSoon (gk:Nat)(G:Nat→Nat→Prop)(B:Nat)(w:World)(c:TCfg)(S:TCfgS)(m:Int)(d:TDom)(T:TDomS)(h:Kp gk G B w c S m d T)(hc:CfgOk c)(hd:DomOkW c m d):
  Calls Try.prog 150 #[.pointer (some ⟨gk,0,none⟩)] w fun e w'=>e= .returned (.int .i64 (dueOf c m d))∧Below w.heap.size w w':=by
 have HN:=zH (fun W (hb:Below w.heap.size w W) i (hi:i < c.tasks.length)=>keeperNext gk G B W c S m d T (h.ext hb) i hi (by rw [hd.lrel];exact hi) (by have:=(hc.task i hi).2.1;omega) (hd.rel i (by rw [hd.lrel];exact hi)) hc.ntasks)
 have HK:=zH (fun W (hb:Below w.heap.size w W)=>h.ext hb)
 have HR:=zH (fun i (hi:i < c.tasks.length)=>relAt_rng hc hd hi)
 have HE:=zH (fun v h=>IsDue.due (v:=v) (p:=fun t=>t < c.tasks.length) hc hd (fun _=>Iff.rfl) h)
 have h6:=hc.ntasks
 have hz:=(blk h.blk).2.2
 clear h hc hd
 refine (callsIn_wide (n:=5)).1 ?_
 refine callsIn_of_wp_marks Try.func150 rfl trivial ?_ rfl
 simp only [Try.ntmps150,List.size_toArray,List.length_cons,List.length_nil,Nat.reduceAdd,Nat.reduceSub,Array.replicate_succ,Array.replicate_zero,List.push_toArray,List.append_toArray,List.nil_append,List.cons_append]
 gi_wp2
 refine wpIn_rangeB rfl (by omega) (gf:=145) (fb:=#[.pointer (some ⟨gk,0,none⟩)]) rfl trivial (enters_of Try.func145 (by kernel_rfl) rfl) (mineIt _ (by omega) gk B c S m h6) (fun _=>rfl)
  (SoonI w gk c m d) ?hRd ?hext ?hput ?h0
  (fun i=>{tmps:=#[.pointer (some ⟨gk,0,none⟩),.pointer (some ⟨w.heap.size,0,none⟩),.int .i64 0,.pointer (some ⟨w.heap.size+1,0,none⟩),.int .i64 i,undef,.pointer (some ⟨gk,0,none⟩),.func (.func 145) #[.pointer (some ⟨gk,0,none⟩)] #[],.int .i64 i,undef,undef,undef,undef,undef,undef,undef,undef,undef,undef,undef,undef],defers:=[]}) ?assign ?body ?done
 case hRd=>exact fun pre A h=>⟨G,d,T,HK.out A h.all.1⟩
 case hext=>
  rintro pre A A' ⟨⟨hb,v,h1,h2,h3⟩⟩ hx
  exact ⟨⟨hb.trans (hx.mono hb.size),v,(hx.block _ (blk h1).2.2).trans h1,(hx.block _ (blk h2).2.2).trans h2,h3⟩⟩
 case hput=>
  rintro pre A o ⟨⟨hb,v,h1,h2,h3⟩⟩
  exact ⟨⟨below_putObj hb (by simp;omega) _,v,(World.putObj_heap_other (by simp<;>omega)).trans h1,(World.putObj_heap_other (by simp<;>omega)).trans h2,h3⟩⟩
 case h0=>
  intro W1 hW1 hb
  refine ⟨⟨Below.trans (byB) (hb.mono (by simp;omega)),-1,(hb.block _ byS).trans byH,(hb.block _ byS).trans byH,IsDue.start _ _ _ _ (by simp)⟩⟩
 case assign=>
  intro l x W K hK
  gi_wp2
  exact hK
 case body=>
  rintro pre x W ⟨hx,hxm⟩ hsz ⟨⟨hb,v,h1,h2,h3⟩⟩ hlen
  have hr:=HR.out x hx
  obtain ⟨c1,f1,z1⟩:=blk h1
  obtain ⟨c2,f2,z2⟩:=blk h2
  simp at hsz
  have hbw:=hb.size
  gi_wp2_with (refine ⟨trivial,?_⟩;gi_at_call 146;refine (CallsIn.inRound _ (callsIn_wide.2 (HN.out W hb x hx))).mono ?_;rintro e w2 ⟨rfl,n2,rfl⟩)
  ·exact ⟨heap_set_far rfl byS,heap_set_far rfl byS,⟨⟨byB,relAt c x d,byH,(heap_set_same (w:=W.drewN n2) h2).trans (by simp [Array.setIfInBounds]),h3.take (fun t=>by simp) hxm hr.1 (by omega)⟩⟩⟩
  ·exact ⟨⟨byB,v,byH,byH,h3.stay (k:=x) (fun t=>by simp) (by omega) (by omega)⟩⟩
  ·exact ⟨heap_set_far rfl byS,heap_set_far rfl byS,⟨⟨byB,relAt c x d,byH,(heap_set_same (w:=W.drewN n2) h2).trans (by simp [Array.setIfInBounds]),h3.take (fun t=>by simp) hxm hr.1 (by omega)⟩⟩⟩
 case done=>
  rintro xs W rfl ⟨⟨hb,v,h1,h2,h3⟩⟩ hk hsz
  have hv:=HE.out v h3.mine
  obtain ⟨c1,f1,z1⟩:=blk h1
  obtain ⟨c2,f2,z2⟩:=blk h2
  gi_wp2
  refine ⟨by simp,.inl ⟨_,_,rfl,run_takeDeferred hk,?_⟩⟩
  refine ⟨_,results_tmp rfl _ _ _,by simp [Act.eval],below_putObj hb (by simp;omega) _⟩
end Go.Proofs.Ytinlmkhlgclbfab
end

section
namespace Go.Proofs.Ytinlmkhlgclbfab
open Go.RowKit
set_option maxHeartbeats 1000000
theorem ownZ_live {w:World}{E:TypeId}{size:Nat}{g n c:Nat}{xs:List Value}(h:ownsZ w E size (.slice (some ⟨g,0,none⟩) n c) n xs)(hc:0 < c):∃cur,w.heap[g]?=some (.cells cur E (0,0)):=by
 rcases h with ⟨_,⟨hv,_⟩|⟨g',cap,cur,hv,_,hh,_⟩⟩|⟨_,_,a,hv⟩
 ·cases hv
 ·injection hv with e1 _ _
  injection e1 with e1;injection e1 with e1
  subst e1
  exact ⟨cur,hh⟩
 ·injection hv with _ _ e3;omega
theorem DomO.ring {G:Nat→Nat→Prop}{w:World}{d:TDom}{T:TDomS}(h:DomO G w d T){i:Nat}(hi:i < d.ins.length):
  ∃g A c,T.a2=some ⟨g,0,none⟩∧G 2 g∧g < w.heap.size∧w.cell? ⟨g,i*2,none⟩=some (.slice A (nth d.ins i).vals.length c)∧w.cell? ⟨g,i*2+1,none⟩=some (.int .i64 (nth d.ins i).lost)∧(∀o,w.frozen? ⟨g,o,none⟩=false)∧Sl cInt (G 2) w A c (nth d.ins i).vals∧
   ∀(W:World) (A':Option Addr) (c':Nat) (r:TRing),(∀b,b < w.heap.size→W.heap[b]?=w.heap[b]?)→w.heap.size≤W.heap.size→ownsZ W 3 1 (.slice A' r.vals.length c') r.vals.length (r.vals.flatMap fun n=>[Value.int .i64 n])→
    (∀b,rowZ (.slice A' r.vals.length c')=some b→w.heap.size≤b∧b < W.heap.size)→
    DomO (addG G 2 w.heap.size W.heap.size) ((W.setCell ⟨g,i*2,none⟩ (.slice A' r.vals.length c')).setCell ⟨g,i*2+1,none⟩ (.int .i64 r.lost)) {d with ins:=d.ins.set i r} T:=by
 obtain ⟨g,c0,es,Gi,hv,hFg,hg,hrel,hcs,hGi,all,hown,hlt,hput⟩:=ozl_put h.o2 hi
 injection hv with ea _ en
 obtain ⟨vv,rfl,hsl⟩:=hrel
 obtain ⟨A,c,rfl⟩:=hsl.form
 have hc0:0 < T.n2:=by
  obtain ⟨_,_,hv',hn',_⟩:=ownZ_form h.o2.choose_spec.choose_spec.2.1
  injection hv' with _ _ e3
  omega
 have hown':=hown
 rw [ea] at hown'
 obtain ⟨cur,hh⟩:=ownZ_live hown' hc0
 refine ⟨g,A,c,ea,hFg,hg,hcs 0 _ rfl,hcs 1 _ rfl,fun o=>(blk hh).2.1 o,hsl.read.mono fun b hb=>(hGi b hb).1,fun W A' c' r hk hs hr hrow=>?_⟩
 have hGlt:∀b,Gi b→b < w.heap.size:=fun b hb=>h.lt 2 b (hGi b hb).1
 have hkw:∀b,b < w.heap.size→b≠g→((W.setCell ⟨g,i*2,none⟩ (.slice A' r.vals.length c')).setCell ⟨g,i*2+1,none⟩ (.int .i64 r.lost)).heap[b]?=w.heap[b]?:=fun b hb hne=>
  (Below.heap_setCell _ _ _ _ hne).trans ((Below.heap_setCell _ _ _ _ hne).trans (hk b hb))
 have hkk:∀k b,k≠2→G k b→((W.setCell ⟨g,i*2,none⟩ (.slice A' r.vals.length c')).setCell ⟨g,i*2+1,none⟩ (.int .i64 r.lost)).heap[b]?=w.heap[b]?:=fun k b hne hb=>
  hkw b (h.lt k b hb) (fun e=>h.dis k 2 b hne hb (by rw [e];exact hFg))
 refine ⟨(h.o0.keep (hkk 0 · (by omega))).mono fun b hb=> .inl hb,(h.o1.keep (hkk 1 · (by omega))).mono fun b hb=> .inl hb,?_,(h.o3.keep (hkk 3 · (by omega))).mono fun b hb=> .inl hb,(h.o4.keep (hkk 4 · (by omega))).mono fun b hb=> .inl hb,(h.o5.keep (hkk 5 · (by omega))).mono fun b hb=> .inl hb,addG_dis h.dis h.lt,fun k b hb=>?_⟩
 ·simp only [List.length_set]
  refine hput _ [.slice A' r.vals.length c',.int .i64 r.lost] r (fun b=>rowZ (.slice A' r.vals.length c')=some b) _ rfl (fun all' ho hi' hl=>?_) ⟨_,rfl,ozl_flat.2 ⟨ownZ_keep hr fun b hb=>?_,fun b hb=>hb⟩⟩ (fun b hb _ hne=>hkw b (h.lt 2 b hb) hne) (fun b hb=> .inl hb) (fun b hb=>⟨.inr ⟨rfl,hrow b hb⟩,fun e=>?_⟩) (fun b hb hF=>?_)
  ·have hsz:(oRing.cod).size=2:=rfl
   rw [hsz] at ho hi' hlt hown
   have k0:=hlt 0 (by omega)
   have k1:=hlt 1 (by omega)
   have hW:ownsZ W 113 2 (.slice (some ⟨g,0,none⟩) d.ins.length T.n2) d.ins.length all:=by
    rw [← ea]
    exact ownZ_keep hown fun b hb=>hk b (ownZ_lt hown b hb)
   have h2:=ownZ_set (ownZ_set hW (j:=i*2) (by omega) (.slice A' r.vals.length c')) (j:=i*2+1) (by simp;omega) (.int .i64 r.lost)
   have:all'=(all.set (i*2) (.slice A' r.vals.length c')).set (i*2+1) (.int .i64 r.lost):=by
    refine List.ext_getElem? fun q=>?_
    rcases Nat.lt_or_ge q all.length with hq|hq
    ·by_cases e0:q=i*2
     ·subst e0
      have:=hi' 0 (by omega)
      rw [Nat.add_zero] at this
      rw [this,List.getElem?_set_ne (by omega),List.getElem?_set_self (by omega)];rfl
     ·by_cases e1:q=i*2+1
      ·subst e1
       rw [hi' 1 (by omega),List.getElem?_set_self (by simp;omega)];rfl
      ·rw [ho q hq (by omega),List.getElem?_set_ne (by omega),List.getElem?_set_ne (by omega)]
    ·rw [List.getElem?_eq_none (by omega),List.getElem?_eq_none (by simpa using hq)]
   rw [this,ea]
   exact h2
  ·have:=hrow b hb
   exact (Below.heap_setCell _ _ _ _ (by show b≠g;omega)).trans (Below.heap_setCell _ _ _ _ (by show b≠g;omega))
  ·have:=hrow b hb;omega
  ·have:=hrow b hb;have:=h.lt 2 b hF;omega
 ·rcases hb with hb|hb
  ·have:=h.lt k b hb;simp;omega
  ·simpa using hb.2.2
theorem DomO.out {G:Nat→Nat→Prop}{w:World}{d:TDom}{T:TDomS}(h:DomO G w d T){i:Nat}(hi:i < d.outs.length):
  ∃(g:Nat) (A:Option Addr) (c:Nat) (Gi:Nat→Prop),T.a4=some ⟨g,0,none⟩∧G 4 g∧g < w.heap.size∧w.cell? ⟨g,i,none⟩=some (.slice A (nth d.outs i).length c)∧(∀o,w.frozen? ⟨g,o,none⟩=false)∧
   ownsZ w 3 1 (.slice A (nth d.outs i).length c) (nth d.outs i).length ((nth d.outs i).flatMap fun n=>[Value.int .i64 n])∧(∀b,rowZ (.slice A (nth d.outs i).length c)=some b→Gi b)∧(∀b,Gi b→G 4 b∧b≠g)∧
   ∀(W:World) (A':Option Addr) (c':Nat) (l:List Int),(∀b,b < w.heap.size→¬ Gi b→W.heap[b]?=w.heap[b]?)→w.heap.size≤W.heap.size→ownsZ W 3 1 (.slice A' l.length c') l.length (l.flatMap fun n=>[Value.int .i64 n])→
    (∀b,rowZ (.slice A' l.length c')=some b→Gi b∨(w.heap.size≤b∧b < W.heap.size))→
    DomO (addG G 4 w.heap.size W.heap.size) (W.setCell ⟨g,i,none⟩ (.slice A' l.length c')) {d with outs:=d.outs.set i l} T:=by
 obtain ⟨g,c0,es,Gi,hv,hFg,hg,hrel,hcs,hGi,all,hown,hlt,hput⟩:=ozl_put h.o4 hi
 injection hv with ea _ en
 obtain ⟨vv,rfl,hsl⟩:=hrel
 obtain ⟨A,c,rfl⟩:=hsl.form
 have hc0:0 < T.n4:=by
  obtain ⟨_,_,hv',hn',_⟩:=ownZ_form h.o4.choose_spec.choose_spec.2.1
  injection hv' with _ _ e3
  omega
 have hown':=hown
 rw [ea] at hown'
 obtain ⟨cur,hh⟩:=ownZ_live hown' hc0
 have hf:=ozl_flat.1 hsl
 refine ⟨g,A,c,Gi,ea,hFg,hg,?_,fun o=>(blk hh).2.1 o,hf.1,hf.2,hGi,fun W A' c' l hk hs hr hrow=>?_⟩
 ·have:=hcs 0 _ rfl
  rwa [show i*(oInts.cod).size+0=i by show i*1+0=i;omega] at this
 have hrg:∀b,rowZ (.slice A' l.length c')=some b→b≠g:=fun b hb=>by
  rcases hrow b hb with h1|h1
  ·exact (hGi b h1).2
  ·omega
 have hkw:∀b,b < w.heap.size→¬ Gi b→b≠g→(W.setCell ⟨g,i,none⟩ (.slice A' l.length c')).heap[b]?=w.heap[b]?:=fun b hb hG hne=>(Below.heap_setCell _ _ _ _ hne).trans (hk b hb hG)
 have hkk:∀k b,k≠4→G k b→(W.setCell ⟨g,i,none⟩ (.slice A' l.length c')).heap[b]?=w.heap[b]?:=fun k b hne hb=>
  hkw b (h.lt k b hb) (fun e=>h.dis k 4 b hne hb (hGi b e).1) (fun e=>h.dis k 4 b hne hb (by rw [e];exact hFg))
 refine ⟨(h.o0.keep (hkk 0 · (by omega))).mono fun b hb=> .inl hb,(h.o1.keep (hkk 1 · (by omega))).mono fun b hb=> .inl hb,(h.o2.keep (hkk 2 · (by omega))).mono fun b hb=> .inl hb,(h.o3.keep (hkk 3 · (by omega))).mono fun b hb=> .inl hb,?_,(h.o5.keep (hkk 5 · (by omega))).mono fun b hb=> .inl hb,addG_dis h.dis h.lt,fun k b hb=>?_⟩
 ·simp only [List.length_set]
  refine hput _ [.slice A' l.length c'] l (fun b=>rowZ (.slice A' l.length c')=some b) _ rfl (fun all' ho hi' hl=>?_) ⟨_,rfl,ozl_flat.2 ⟨ownZ_keep hr fun b hb=>?_,fun b hb=>hb⟩⟩ (fun b hb hG hne=>hkw b (h.lt 4 b hb) hG hne) (fun b hb=> .inl hb) (fun b hb=>⟨?_,hrg b hb⟩) (fun b hb hF=>?_)
  ·have hsz:(oInts.cod).size=1:=rfl
   rw [hsz] at ho hi' hlt hown
   have k0:=hlt 0 (by omega)
   have hW:ownsZ W 23 1 (.slice (some ⟨g,0,none⟩) d.outs.length T.n4) d.outs.length all:=by
    rw [← ea]
    refine ownZ_keep hown fun b hb=>hk b (ownZ_lt hown b hb) fun hG=>?_
    rw [ea,rowZ_pos hc0] at hb
    injection hb with hb
    exact (hGi b hG).2 hb.symm
   have h2:=ownZ_set hW (j:=i) (by omega) (.slice A' l.length c')
   have:all'=all.set i (.slice A' l.length c'):=by
    refine List.ext_getElem? fun q=>?_
    rcases Nat.lt_or_ge q all.length with hq|hq
    ·by_cases e0:q=i
     ·subst e0
      have:=hi' 0 (by omega)
      rw [show q*1+0=q by omega] at this
      rw [this,List.getElem?_set_self (by omega)];rfl
     ·rw [ho q hq (by omega),List.getElem?_set_ne (by omega)]
    ·rw [List.getElem?_eq_none (by omega),List.getElem?_eq_none (by simpa using hq)]
   rw [this,ea]
   exact h2
  ·exact Below.heap_setCell _ _ _ _ (hrg b hb)
  ·rcases hrow b hb with h1|h1
   ·exact .inl (hGi b h1).1
   ·exact .inr ⟨rfl,h1⟩
  ·rcases hrow b hb with h1|h1
   ·exact h1
   ·have:=h.lt 4 b hF;omega
 ·rcases hb with hb|hb
  ·have:=h.lt k b hb;simp;omega
  ·simpa using hb.2.2
theorem DomO.at {G:Nat→Nat→Prop}{F:Nat→Prop}{w:World}{d:TDom}{T:TDomS}(h:DomO G w d T)(hF:∀i b,G i b→F b):TDom.At F w d T:=
 ⟨h.o0.read.mono (hF 0),h.o1.read.mono (hF 1),h.o2.read.mono (hF 2),h.o3.read.mono (hF 3),h.o4.read.mono (hF 4),h.o5.read.mono (hF 5)⟩
end Go.Proofs.Ytinlmkhlgclbfab
end

section
namespace Go.Proofs.Ytinlmkhlgclbfab
open Go.RowKit
set_option maxRecDepth 100000
set_option maxHeartbeats 4000000
structure Rn (gr gk:Nat) (G:Nat→Nat→Prop) (F:Nat→Prop) (B:Nat) (w:World) (c:TCfg) (S:TCfgS) (m:Int) (d:TDom) (T:TDomS) (k:List (List TWay)) (Ak:Option Addr) (nk:Nat) (l:List TAct) (Al:Option Addr) (nl:Nat) (now to_:Int):Prop where
 blk:w.heap[gr]?=some (.cells #[.pointer (some ⟨gk,0,none⟩),.slice Ak k.length nk,.slice Al l.length nl,.int .i64 now,.int .i64 to_] 159)
 kp:Kp gk G B w c S m d T
 own:OCache F w (.slice Ak k.length nk) k
 acts:Sl cAct (Low B) w Al nl l
 grk:gr≠gk
 grG:∀i b,G i b→b≠gr
 grF:∀b,F b→b≠gr∧b≠gk∧B≤b∧b < w.heap.size
 FG:∀i b,G i b→¬ F b
 lo:B≤gr
structure REff (gr gk B:Nat) (F:Nat→Prop) (G G':Nat→Nat→Prop) (w w':World):Prop where
 below:Below B w w'
 keep:∀b,b < w.heap.size→b≠gr→b≠gk→(∀i,¬ G i b)→¬ F b→w'.heap[b]?=w.heap[b]?
 grow:∀i b,G' i b→G i b∨(w.heap.size≤b∧b < w'.heap.size)
theorem REff.refl (gr gk B:Nat)(F:Nat→Prop)(G:Nat→Nat→Prop)(w:World):REff gr gk B F G G w w:=⟨Below.refl _ _,fun _ _ _ _ _ _=>rfl,fun _ _ h=> .inl h⟩
theorem REff.trans {gr gk B:Nat}{F:Nat→Prop}{G G' G'':Nat→Nat→Prop}{w w' w'':World}(h:REff gr gk B F G G' w w')(h':REff gr gk B F G' G'' w' w''):REff gr gk B F G G'' w w'':=
 ⟨h.below.trans h'.below,fun b hb h1 h2 hG hF=>(h'.keep b (Nat.lt_of_lt_of_le hb h.below.size) h1 h2 (fun i hi=>by
  rcases h.grow i b hi with h1|h1
  ·exact hG i h1
  ·omega) hF).trans (h.keep b hb h1 h2 hG hF),fun i b hi=>by
  have:=h.below.size
  have:=h'.below.size
  rcases h'.grow i b hi with h1|h1
  ·rcases h.grow i b h1 with h2|h2
   ·exact .inl h2
   ·exact .inr ⟨h2.1,by omega⟩
  ·exact .inr ⟨by omega,h1.2⟩⟩
theorem KEff.run {gr gk B:Nat}{F:Nat→Prop}{G G':Nat→Nat→Prop}{w w':World}(h:KEff gk B G G' w w'):REff gr gk B F G G' w w':=⟨h.below,fun b hb _ h2 hG _=>h.keep b hb h2 hG,h.grow⟩
section
variable {gr gk : Nat} {G : Nat → Nat → Prop} {F : Nat → Prop} {B : Nat} {w : World} {c : TCfg} {S : TCfgS} {m : Int} {d : TDom} {T : TDomS} {k : List (List TWay)} {Ak : Option Addr} {nk : Nat} {l : List TAct} {Al : Option Addr} {nl : Nat} {now to_ : Int}
theorem Rn.hB (h:Rn gr gk G F B w c S m d T k Ak nk l Al nl now to_):B≤w.heap.size:=by
 have:=h.lo
 have:=(Go.Proofs.Ytinlmkhlgclbfab.blk h.blk).2.2
 omega
theorem Rn.keeper (h:Rn gr gk G F B w c S m d T k Ak nk l Al nl now to_){G':Nat→Nat→Prop}{w':World}{d':TDom}{T':TDomS}(hK:Kp gk G' B w' c S m d' T')(hE:KEff gk B G G' w w'):Rn gr gk G' F B w' c S m d' T' k Ak nk l Al nl now to_:=by
 have hz:=(Go.Proofs.Ytinlmkhlgclbfab.blk h.blk).2.2
 have hs:=hE.below.size
 have hlo:=h.lo
 have hkF:∀b,F b→w'.heap[b]?=w.heap[b]?:=fun b hb=>hE.keep b (h.grF b hb).2.2.2 (h.grF b hb).2.1 (fun i hi=>h.FG i b hi hb)
 refine ⟨(hE.keep gr hz h.grk (fun i hi=>h.grG i gr hi rfl)).trans h.blk,hK,OSl.keep h.own hkF,h.acts.keep fun b hb=>hE.below.block b hb,h.grk,fun i b hb=>?_,fun b hb=>⟨(h.grF b hb).1,(h.grF b hb).2.1,(h.grF b hb).2.2.1,by have:=(h.grF b hb).2.2.2;omega⟩,fun i b hb hf=>?_,h.lo⟩
 ·rcases hE.grow i b hb with h1|h1
  ·exact h.grG i b h1
  ·omega
 ·rcases hE.grow i b hb with h1|h1
  ·exact h.FG i b h1 hf
  ·have:=(h.grF b hf).2.2.2;omega
theorem Rn.ext (h:Rn gr gk G F B w c S m d T k Ak nk l Al nl now to_){w':World}(hb:Below w.heap.size w w'):Rn gr gk G F B w' c S m d T k Ak nk l Al nl now to_:=
 h.keeper (h.kp.ext hb) (KEff.ext h.hB hb)
theorem REff.ext {gr gk B:Nat}{F:Nat→Prop}{G:Nat→Nat→Prop}{w w':World}(hB:B≤w.heap.size)(hb:Below w.heap.size w w'):REff gr gk B F G G w w':=(KEff.ext hB hb).run
theorem Rn.time (h:Rn gr gk G F B w c S m d T k Ak nk l Al nl now to_)(now':Int):Rn gr gk G F B (w.setCell ⟨gr,3,none⟩ (.int .i64 now')) c S m d T k Ak nk l Al nl now' to_∧REff gr gk B F G G w (w.setCell ⟨gr,3,none⟩ (.int .i64 now')):=by
 have hk:∀b,b≠gr→(w.setCell ⟨gr,3,none⟩ (.int .i64 now')).heap[b]?=w.heap[b]?:=fun b hb=>Below.heap_setCell _ _ _ _ hb
 have hlo:=h.lo
 have hzk:=(Go.Proofs.Ytinlmkhlgclbfab.blk h.kp.blk).2.2
 refine ⟨⟨?_,⟨(hk gk (Ne.symm h.grk)).trans h.kp.blk,h.kp.cfg.keep fun b hb=>hk b (by simp only [Low] at hb;omega),h.kp.dom.keep (fun i b hb=>hk b (h.grG i b hb)) (by simp),h.kp.apart,h.kp.lo⟩,OSl.keep h.own fun b hb=>hk b (h.grF b hb).1,h.acts.keep fun b hb=>hk b (by simp only [Low] at hb;omega),h.grk,h.grG,fun b hb=>by simpa using h.grF b hb,h.FG,h.lo⟩,⟨Below.setCell (Below.refl _ _) hlo _,fun b _ hb _ _ _=>hk b hb,fun _ _ h=> .inl h⟩⟩
 have:=heap_set_same (i:=3) (u:= .int .i64 now') h.blk
 simpa using this
end
theorem runnerIdle {gr gk:Nat}{G:Nat→Nat→Prop}{F:Nat→Prop}{B:Nat}{w:World}{c:TCfg}{S:TCfgS}{m:Int}{d:TDom}{T:TDomS}{k:List (List TWay)}{Ak:Option Addr}{nk:Nat}{l:List TAct}{Al:Option Addr}{nl:Nat}{now to_:Int}
  (h:Rn gr gk G F B w c S m d T k Ak nk l Al nl now to_) (hc:CfgOk c) (hd:DomOkW c m d):
  Calls Try.prog 140 #[.pointer (some ⟨gr,0,none⟩)] w fun e w'=>e= .returned (.tuple #[])∧Rn gr gk G F B w' c S m d T k Ak nk l Al nl (idleTo to_ (dueOf c m d)) to_∧REff gr gk B F G G w w':=by
 have HS:=zH (fun W (hb:Below w.heap.size w W)=>keeperSoon gk G B W c S m d T (h.kp.ext hb) hc hd)
 have HT:=zH (fun W (hb:Below w.heap.size w W) n=>(h.ext hb).time n)
 have hbk:=h.blk
 obtain ⟨cb,fb,zb⟩:=blk hbk
 have hB:=h.hB
 clear h
 by_cases h0:0≤dueOf c m d
 ·by_cases h1:dueOf c m d < to_
  ·have R:idleTo to_ (dueOf c m d)=dueOf c m d:=by unfold idleTo;rw [if_pos ⟨h0,h1⟩]
   rw [R]
   have b0:decide (dueOf c m d≥0)=true:=by simpa using h0
   have b1:decide (dueOf c m d < to_)=true:=by simpa using h1
   clear R
   generalize dueOf c m d=D at*
   go_enter Try.func140,Try.ntmps140
   go_wp2_with fail
   go_at_call 150
   refine (HS.out _ byB).mono ?_
   rintro e w1 ⟨rfl,hb1⟩
   have h1':Below w.heap.size w w1:=byB
   obtain ⟨cb1,fb1,zb1⟩:=blk ((h1'.block _ zb).trans hbk)
   have HF:=zH (HT.out w1 h1' D)
   go_wp2_with fail
   refine bodyPost_ret (v:= .tuple #[]) (by simp [results,Try.results140,go_sem, *]) rfl ?_
   exact ⟨rfl,HF.out.1,(REff.ext hB h1').trans HF.out.2⟩
  ·have R:idleTo to_ (dueOf c m d)=to_:=by unfold idleTo;rw [if_neg (by omega)]
   rw [R]
   have b0:decide (dueOf c m d≥0)=true:=by simpa using h0
   have b1:decide (dueOf c m d < to_)=false:=by simpa using h1
   clear R
   generalize dueOf c m d=D at*
   go_enter Try.func140,Try.ntmps140
   go_wp2_with fail
   go_at_call 150
   refine (HS.out _ byB).mono ?_
   rintro e w1 ⟨rfl,hb1⟩
   have h1':Below w.heap.size w w1:=byB
   obtain ⟨cb1,fb1,zb1⟩:=blk ((h1'.block _ zb).trans hbk)
   have HF:=zH (HT.out w1 h1' to_)
   go_wp2_with fail
   refine bodyPost_end (v:= .tuple #[]) (by simp [results,Try.results140,go_sem, *]) rfl ?_
   exact ⟨rfl,HF.out.1,(REff.ext hB h1').trans HF.out.2⟩
 ·have R:idleTo to_ (dueOf c m d)=to_:=by unfold idleTo;rw [if_neg (by omega)]
  rw [R]
  have b0:decide (dueOf c m d≥0)=false:=by simpa using h0
  clear R
  generalize dueOf c m d=D at*
  go_enter Try.func140,Try.ntmps140
  go_wp2_with fail
  go_at_call 150
  refine (HS.out _ byB).mono ?_
  rintro e w1 ⟨rfl,hb1⟩
  have h1':Below w.heap.size w w1:=byB
  obtain ⟨cb1,fb1,zb1⟩:=blk ((h1'.block _ zb).trans hbk)
  have HF:=zH (HT.out w1 h1' to_)
  go_wp2_with fail
  refine bodyPost_end (v:= .tuple #[]) (by simp [results,Try.results140,go_sem, *]) rfl ?_
  exact ⟨rfl,HF.out.1,(REff.ext hB h1').trans HF.out.2⟩
theorem runnerRefused {gr gk:Nat}{G:Nat→Nat→Prop}{F:Nat→Prop}{B:Nat}{w:World}{c:TCfg}{S:TCfgS}{m:Int}{d:TDom}{T:TDomS}{k:List (List TWay)}{Ak:Option Addr}{nk:Nat}{l:List TAct}{Al:Option Addr}{nl:Nat}{now to_:Int}
  (h:Rn gr gk G F B w c S m d T k Ak nk l Al nl now to_) (hc:CfgOk c) (a:TAct) (ha:ActOk a):
  Calls Try.prog 151 #[.pointer (some ⟨gr,0,none⟩),.agg #[.int .i64 a.kind,.int .i64 a.n,.int .i64 a.value]] w fun e w'=>e= .returned (.bool (refusedA c m a))∧Below w.heap.size w w':=by
 have hbk:=h.blk
 have hkk:=h.kp.blk
 have hs:=h.kp.cfg
 have hB:=h.hB
 obtain ⟨kd,nm,v⟩:=a
 have hnm:=ha.name
 dsimp only at hnm⊢
 have n4:=hc.nchans
 have o4:=hc.nowners
 clear ha h
 by_cases h457:kd=4∨kd=5∨kd=7
 ·have h0:=hnm h457
  obtain ⟨i,rfl⟩:=Int.eq_ofNat_of_zero_le h0
  have i0:(0:Int)≤i:=by omega
  rcases h457 with rfl|rfl|rfl
  ·skip
   have E4:refusedA c m ⟨4,i,v⟩=(decide ((c.chans.length:Int)≤i)||decide ((nth c.chans i).src≠m)):=by unfold refusedA;simp
   rw [E4]
   clear E4 hnm h0
   by_cases hlen:i < c.chans.length
   ·have b1:decide (i≥c.chans.length)=false:=by simp;omega
    have b1':decide ((i:Int)≥c.chans.length)=false:=by simp;omega
    have b1'':decide ((c.chans.length:Int)≤i)=false:=by simp;omega
    have i1:(i:Int) < c.chans.length:=by omega
    obtain ⟨b,o,e,hI,x0,x1,x2⟩:=hs.s2.at_chan hlen
    rw [e] at hkk
    clear e
    have hbl:b < w.heap.size:=Nat.lt_of_lt_of_le hI hB
    obtain ⟨cb,fb,zb⟩:=blk hbk
    obtain ⟨ck,fk,zk⟩:=blk hkk
    rw [b1'',Bool.false_or]
    clear b1''
    by_cases hx:(nth c.chans i).src=m
    ·have b2:((nth c.chans i).src !=m)=false:=by simp [hx]
     rw [show decide ((nth c.chans i).src≠m)=false by simp [hx]]
     clear hx
     go_enter Try.func151,Try.ntmps151
     go_wp2_with fail
     go_quiet (fail)
     go_wp2_with fail
     go_ret
     exact ⟨rfl,byB⟩
    ·have b2:((nth c.chans i).src !=m)=true:=by simp [hx]
     rw [show decide ((nth c.chans i).src≠m)=true by simp [hx]]
     clear hx
     go_enter Try.func151,Try.ntmps151
     go_wp2_with fail
     go_quiet (fail)
     go_wp2_with fail
     go_ret
     exact ⟨rfl,byB⟩
   ·have b1:decide (i≥c.chans.length)=true:=by simp;omega
    have b1':decide ((i:Int)≥c.chans.length)=true:=by simp;omega
    rw [show decide ((c.chans.length:Int)≤i)=true by simp;omega,Bool.true_or]
    obtain ⟨cb,fb,zb⟩:=blk hbk
    obtain ⟨ck,fk,zk⟩:=blk hkk
    go_enter Try.func151,Try.ntmps151
    go_wp2_with fail
    go_quiet (fail)
    go_wp2_with fail
    go_ret
    exact ⟨rfl,byB⟩
  ·skip
   have E4:refusedA c m ⟨5,i,v⟩=(decide ((c.chans.length:Int)≤i)||decide ((nth c.chans i).dst≠m)):=by unfold refusedA;simp
   rw [E4]
   clear E4 hnm h0
   by_cases hlen:i < c.chans.length
   ·have b1:decide (i≥c.chans.length)=false:=by simp;omega
    have b1':decide ((i:Int)≥c.chans.length)=false:=by simp;omega
    have b1'':decide ((c.chans.length:Int)≤i)=false:=by simp;omega
    have i1:(i:Int) < c.chans.length:=by omega
    obtain ⟨b,o,e,hI,x0,x1,x2⟩:=hs.s2.at_chan hlen
    rw [e] at hkk
    clear e
    have hbl:b < w.heap.size:=Nat.lt_of_lt_of_le hI hB
    obtain ⟨cb,fb,zb⟩:=blk hbk
    obtain ⟨ck,fk,zk⟩:=blk hkk
    rw [b1'',Bool.false_or]
    clear b1''
    by_cases hx:(nth c.chans i).dst=m
    ·have b2:((nth c.chans i).dst !=m)=false:=by simp [hx]
     rw [show decide ((nth c.chans i).dst≠m)=false by simp [hx]]
     clear hx
     go_enter Try.func151,Try.ntmps151
     go_wp2_with fail
     go_quiet (fail)
     go_wp2_with fail
     go_ret
     exact ⟨rfl,byB⟩
    ·have b2:((nth c.chans i).dst !=m)=true:=by simp [hx]
     rw [show decide ((nth c.chans i).dst≠m)=true by simp [hx]]
     clear hx
     go_enter Try.func151,Try.ntmps151
     go_wp2_with fail
     go_quiet (fail)
     go_wp2_with fail
     go_ret
     exact ⟨rfl,byB⟩
   ·have b1:decide (i≥c.chans.length)=true:=by simp;omega
    have b1':decide ((i:Int)≥c.chans.length)=true:=by simp;omega
    rw [show decide ((c.chans.length:Int)≤i)=true by simp;omega,Bool.true_or]
    obtain ⟨cb,fb,zb⟩:=blk hbk
    obtain ⟨ck,fk,zk⟩:=blk hkk
    go_enter Try.func151,Try.ntmps151
    go_wp2_with fail
    go_quiet (fail)
    go_wp2_with fail
    go_ret
    exact ⟨rfl,byB⟩
  ·skip
   have E4:refusedA c m ⟨7,i,v⟩=(decide ((c.owners.length:Int)≤i)||decide (nth c.owners i≠m)):=by unfold refusedA;simp
   rw [E4]
   clear E4 hnm h0
   by_cases hlen:i < c.owners.length
   ·have b1:decide (i≥c.owners.length)=false:=by simp;omega
    have b1':decide ((i:Int)≥c.owners.length)=false:=by simp;omega
    have b1'':decide ((c.owners.length:Int)≤i)=false:=by simp;omega
    have i1:(i:Int) < c.owners.length:=by omega
    obtain ⟨b,o,e,hI,x0⟩:=hs.s1.at_int hlen
    rw [e] at hkk
    clear e
    have hbl:b < w.heap.size:=Nat.lt_of_lt_of_le hI hB
    obtain ⟨cb,fb,zb⟩:=blk hbk
    obtain ⟨ck,fk,zk⟩:=blk hkk
    rw [b1'',Bool.false_or]
    clear b1''
    by_cases hx:nth c.owners i=m
    ·have b2:(nth c.owners i !=m)=false:=by simp [hx]
     rw [show decide (nth c.owners i≠m)=false by simp [hx]]
     clear hx
     go_enter Try.func151,Try.ntmps151
     go_wp2_with fail
     go_quiet (fail)
     go_wp2_with fail
     go_ret
     exact ⟨rfl,byB⟩
    ·have b2:(nth c.owners i !=m)=true:=by simp [hx]
     rw [show decide (nth c.owners i≠m)=true by simp [hx]]
     clear hx
     go_enter Try.func151,Try.ntmps151
     go_wp2_with fail
     go_quiet (fail)
     go_wp2_with fail
     go_ret
     exact ⟨rfl,byB⟩
   ·have b1:decide (i≥c.owners.length)=true:=by simp;omega
    have b1':decide ((i:Int)≥c.owners.length)=true:=by simp;omega
    rw [show decide ((c.owners.length:Int)≤i)=true by simp;omega,Bool.true_or]
    obtain ⟨cb,fb,zb⟩:=blk hbk
    obtain ⟨ck,fk,zk⟩:=blk hkk
    go_enter Try.func151,Try.ntmps151
    go_wp2_with fail
    go_quiet (fail)
    go_wp2_with fail
    go_ret
    exact ⟨rfl,byB⟩
 ·have R:refusedA c m ⟨kd,nm,v⟩=false:=by unfold refusedA;dsimp only;rw [if_neg (by omega),if_neg (by omega),if_neg (by omega)]
  rw [R]
  have b4:(kd==4)=false:=by simp;omega
  have b5:(kd==5)=false:=by simp;omega
  have b7:(kd==7)=false:=by simp;omega
  obtain ⟨cb,fb,zb⟩:=blk hbk
  obtain ⟨ck,fk,zk⟩:=blk hkk
  clear R h457 hnm
  go_enter Try.func151,Try.ntmps151
  go_wp2_with fail
  go_ret
  exact ⟨rfl,byB⟩
end Go.Proofs.Ytinlmkhlgclbfab
end
