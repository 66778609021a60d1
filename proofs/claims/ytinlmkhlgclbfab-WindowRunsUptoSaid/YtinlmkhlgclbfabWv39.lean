/- RelR -/
import Derived.Test.YtinlmkhlgclbfabWv24
import Derived.Test.YtinlmkhlgclbfabWv34
namespace Go.Proofs.Ytinlmkhlgclbfab
open Go.RowKit
set_option maxRecDepth 100000
set_option maxHeartbeats 8000000
theorem refReleaseOf (c:TCfg)(S:TCfgS)(dom now:Int)(d:TDom)(T:TDomS)(hc:CfgOk c)(hd:DomOkW c dom d)(hnow:0≤now∧now≤100000)(hev:d.events.length+40≤4398046511104)
  (G:Nat→Nat→Prop) (B:Nat) (w:World) (hB:B≤w.heap.size) (hs:TCfg.At (Low B) w c S) (hO:DomO G w d T) (hap:∀i b,G i b→B≤b):
  Calls Try.prog 73 #[.agg #[.int .i64 c.sets,.int .i64 c.ways,.int .i64 c.doms,.int .i64 c.pad,.int .i64 c.quantum,.slice S.a0 c.slots.length S.n0,.slice S.a1 c.owners.length S.n1,.slice S.a2 c.chans.length S.n2,.slice S.a3 c.tasks.length S.n3],.int .i64 dom,.agg #[.slice T.a0 d.jobs.length T.n0,.slice T.a1 d.released.length T.n1,.int .i64 d.next,.slice T.a2 d.ins.length T.n2,.slice T.a3 d.taken.length T.n3,.slice T.a4 d.outs.length T.n4,.slice T.a5 d.events.length T.n5],.int .i64 now] w fun e w'=>∃T' G',e= .returned (.agg #[.slice T'.a0 (releaseOf c dom now d).jobs.length T'.n0,.slice T'.a1 (releaseOf c dom now d).released.length T'.n1,.int .i64 (releaseOf c dom now d).next,.slice T'.a2 (releaseOf c dom now d).ins.length T'.n2,.slice T'.a3 (releaseOf c dom now d).taken.length T'.n3,.slice T'.a4 (releaseOf c dom now d).outs.length T'.n4,.slice T'.a5 (releaseOf c dom now d).events.length T'.n5])∧DomO G' w' (releaseOf c dom now d) T'∧DEff B G G' w w':=by
 have h6:=hc.ntasks
 have hT:∀x,x < d.released.length→∃g,T.a1=some ⟨g,0,none⟩:=fun x h=>by
  obtain ⟨g,e,_⟩:=hO.released h
  exact ⟨g,e⟩
 replace hT:=zH hT
 have hR0:∀W,W=((w.alloc (.cells #[.int .i64 c.sets,.int .i64 c.ways,.int .i64 c.doms,.int .i64 c.pad,.int .i64 c.quantum,.slice S.a0 c.slots.length S.n0,.slice S.a1 c.owners.length S.n1,.slice S.a2 c.chans.length S.n2,.slice S.a3 c.tasks.length S.n3] 27)).alloc (.cells #[.slice T.a0 d.jobs.length T.n0,.slice T.a1 d.released.length T.n1,.int .i64 d.next,.slice T.a2 d.ins.length T.n2,.slice T.a3 d.taken.length T.n3,.slice T.a4 d.outs.length T.n4,.slice T.a5 d.events.length T.n5] 45)).alloc (.cells #[.slice none 0 0,.slice none 0 0,.int .i64 0,.slice none 0 0,.slice none 0 0,.slice none 0 0,.slice none 0 0] 45)→Rm w G B c S dom T.a1 (4398046511104 - 20) d W:=by
  rintro W rfl
  have hb:Below w.heap.size w (((w.alloc (.cells #[.int .i64 c.sets,.int .i64 c.ways,.int .i64 c.doms,.int .i64 c.pad,.int .i64 c.quantum,.slice S.a0 c.slots.length S.n0,.slice S.a1 c.owners.length S.n1,.slice S.a2 c.chans.length S.n2,.slice S.a3 c.tasks.length S.n3] 27)).alloc (.cells #[.slice T.a0 d.jobs.length T.n0,.slice T.a1 d.released.length T.n1,.int .i64 d.next,.slice T.a2 d.ins.length T.n2,.slice T.a3 d.taken.length T.n3,.slice T.a4 d.outs.length T.n4,.slice T.a5 d.events.length T.n5] 45)).alloc (.cells #[.slice none 0 0,.slice none 0 0,.int .i64 0,.slice none 0 0,.slice none 0 0,.slice none 0 0,.slice none 0 0] 45)):=byB
  refine ⟨⟨G,T,⟨byH,hs.next hB hb,hO.keep (fun i b h=>hb.block b (hO.lt i b h)) hb.size,fun i b h=>⟨by have:=hO.lt i b h;omega,hap i b h⟩,by omega⟩,KEff.ext hB hb,fun i b h=> .inl h,fun _ _=>rfl⟩,byH,byH,by simp,hB,hO.lt,hd,by omega⟩
 replace hR0:=zH hR0
 have hl1:d.events.length+(20 - d.jobs.length)≤4398046511104 - 20:=by omega
 have hrl:d.released.length=c.tasks.length:=hd.lrel
 replace hrl:=zH hrl
 clear hs hO hap hev
 go_enter Try.func73,Try.ntmps73
 go_wp2_with fail
 go_loopw [9] (fun iv wr=>∃(i:Nat) (d1:TDom),i≤c.tasks.length∧iv= .int .i64 i∧relAll c dom now d=upTo (relTask c dom now) (c.tasks.length - i) i d1∧d1.events.length+(20 - d1.jobs.length)≤4398046511104 - 20∧Rm w G B c S dom T.a1 (4398046511104 - 20) d1 wr) (fun iv _=>c.tasks.length - (intOf iv).toNat)
 case atStart=>exact ⟨0,d,Nat.zero_le _,rfl,rfl,hl1,hR0.out _ rfl⟩
 case round=>
  obtain ⟨x,d0,hi,rfl,hup,hev0,hC0⟩:=hrel
  have hz0:=hC0.size
  obtain ⟨c0,f0,z0⟩:=blk hC0.box0
  have hi0:(0:Int)≤x:=by omega
  by_cases hlt:x < c.tasks.length
  ·have hi1:(x:Int) < c.tasks.length:=by omega
   obtain ⟨gt,eT⟩:=hT.out x (by rw [hrl.out];exact hlt)
   replace eT:=zH eT
   obtain ⟨_,_,hD0,_⟩:=hC0.all
   obtain ⟨bt,ot,et,hIt,t0,t1,t2,t3⟩:=hD0.cfg.s3.at_task hlt
   rw [et] at c0
   clear hD0 et
   by_cases hxm:(nth c.tasks x).dom=dom
   ·go_wp2_with fail
    go_loopw [10] (fun av wr=>InW w G B c S dom now T.a1 (4398046511104 - 20) x (relLoop c x now (relFuel x d0) d0) wr) (fun av wr=>relM T.a1 x wr)
    case atStart=>exact ⟨⟨d0,_,Nat.le_refl _,rfl,hev0,hC0⟩⟩
    case round=>
     clear c0 f0 z0 t0 t1 t2 t3
     obtain ⟨⟨d1,n1,hn1,htgt,hev1,hC1⟩⟩:=hrel
     obtain ⟨G1,T1,hD1,hE1,hG1,ha1'⟩:=hC1.all
     have ha1:T1.a1=T.a1:=ha1' _ eT.out
     have hd1:=hC1.ok
     have hxr:x < d1.released.length:=by rw [hd1.lrel];exact hlt
     obtain ⟨g,eg,hGg,hgl,hcr,hfr,hset⟩:=dp_rel hD1 hxr
     obtain ⟨bt,ot,et,hIt,t0,t1,t2,t3⟩:=hD1.cfg.s3.at_task hlt
     have hrl:=hd1.rel x hxr
     have hra:=relAt_rng hc hd1 hlt
     have hbk:=hD1.blk
     rw [eg] at hbk
     have hbc:=hC1.box0
     rw [et] at hbc
     have hIt:bt < B:=hIt
     have hz1:=hC1.size
     have hB1:=hC1.hB
     have hbt:bt < w.heap.size:=by omega
     obtain ⟨cb,fb,zb⟩:=blk hbk
     obtain ⟨c0,f0,z0⟩:=blk hbc
     have hx0:(0:Int)≤x:=by omega
     have hxl:(x:Int) < d1.released.length:=by omega
     have hmul:IntKind.i64.wrap ((nth c.tasks x).period*nth d1.released x)=relAt c x d1:=IntWalk.i64_in _ (by unfold relAt at hra;omega)
     have hgo:=zH (⟨hset,hD1,hE1,hG1,ha1,hC1,htgt,hn1,hev1⟩:_∧_∧_∧_∧_∧_∧_∧_∧_)
     have heg:=zH eg
     have hstop:∀k,relCan c x now d1=false→d1=relLoop c x now (relFuel x d0) d0∧Rm w G B c S dom T.a1 (4398046511104 - 20) d1 (wr.drewN k):=fun k hcan=>
      ⟨by rw [← htgt,relLoop_stop hcan],hC1.turn hE1 hG1 (hD1.drewN k) (KEff.ext (by omega) (below_drewN (Below.refl _ _) _)) ha1' hd1 hC1.ev⟩
     replace hstop:=zH hstop
     have het:=zH et
     clear hset hD1 hE1 hG1 ha1 ha1' hC1 htgt hn1 eg et hbc
     have hR':relAt c x d1=(nth c.tasks x).period*nth d1.released x:=rfl
     generalize hR:relAt c x d1=R at hra hmul hR'
     generalize hL:nth d1.released x=rl at hrl hcr hmul hR'
     generalize hP:(nth c.tasks x).period=pe at t1 hmul hR'
     replace hR:=zH hR
     replace hL:=zH hL
     replace hP:=zH hP
     replace hR':=zH hR'
     by_cases hle:R≤now
     ·by_cases hlt2:rl < 100000
      ·go_wp2_with fail
       go_quiet (fail)
       generalize hWa:wr.drewN nq=Wa
       have hCa:Rm w G B c S dom T.a1 (4398046511104 - 20) d1 Wa:=by
        rw [← hWa]
        exact hgo.out.2.2.2.2.2.1.turn hgo.out.2.2.1 hgo.out.2.2.2.1 (hgo.out.2.1.drewN nq) (KEff.ext (by omega) (below_drewN (Below.refl _ _) _)) (fun _ _=>hgo.out.2.2.2.2.1) hd1 hgo.out.2.2.2.2.2.1.ev
       have hDa:Dp (w.heap.size+1) G1 B Wa c S d1 T1:=by rw [← hWa];exact hgo.out.2.1.drewN nq
       have hza:Wa.heap.size=wr.heap.size:=by rw [← hWa];rfl
       have hcra:Wa.cell? ⟨g,x,none⟩=some (.int .i64 rl):=by rw [← hWa];exact hcr
       have hfra:∀o,Wa.frozen? ⟨g,o,none⟩=false:=by rw [← hWa];exact hfr
       have t1a:Wa.cell? ⟨bt,ot+x*4+1,none⟩=some (.int .i64 pe):=by rw [← hWa];exact t1
       obtain ⟨gq,egq,hGq,hgq,_,_,hsetq⟩:=dp_rel hDa hxr
       obtain rfl:g=gq:=come_row heg.out egq
       obtain ⟨hD1',hE1'⟩:=hsetq (rl+1)
       have hbka:=hDa.blk
       rw [heg.out] at hbka
       obtain ⟨cba,fba,zba⟩:=blk hbka
       have hbca:=hCa.box0
       rw [het.out] at hbca
       obtain ⟨cca,fca,zca⟩:=blk hbca
       have hcan:relCan c x now d1=true:=by rw [relCan_iff,hR.out,hL.out];omega
       have hg1:g≠w.heap.size+1:=(hDa.apart 1 g hGq).1
       clear hsetq egq cb fb c0 f0 hcr hfr t0 t1 t2 t3
       have hbk1:=hD1'.blk
       simp only [List.length_set] at hbk1
       obtain ⟨cb1,fb1,zb1⟩:=blk hbk1
       have hzw:w.heap.size+3≤Wa.heap.size:=by omega
       replace hza:=zH hza
       replace hWa:=zH hWa
       replace hCa:=zH hCa
       replace hDa:=zH hDa
       by_cases hj:d1.jobs.length < 20
       ·have hjn:((d1.jobs.length:Int)==20)=false:=by simp;omega
        have HJ:=fun {A:Option Addr} {cc:Nat} {w3:World} =>zH (dp_jobs (w.heap.size+1) G1 B _ c S _ T1 hD1' ⟨x,rl,R,0,false,false⟩ (A:=A) (cc:=cc) (w3:=w3) (o:= .cells #[.int .i64 x,.int .i64 rl,.int .i64 R,.int .i64 0,.bool false,.bool false] 110))
        have hownJ:=zH (ozl_flat.1 hD1'.dom.o0).1
        have h1j:=one_job [⟨x,rl,R,0,false,false⟩]
        replace hD1':=zH hD1'
        replace hE1':=zH hE1'
        go_wp2_with (first|(at_builtin;refine wpList_appZ rfl (.tmp 75) (.tmp 80) _ rfl tyJob (.slice T1.a0 d1.jobs.length T1.n0) d1.jobs.length (d1.jobs.flatMap TJob.cells) (by rfl) (ownZ_keep hownJ.out (fun b hb=>heap_alloc_old _ _ (ownZ_lt hownJ.out b hb))) (some ⟨Wa.heap.size,0,none⟩) 1 1 [.int .i64 x,.int .i64 rl,.int .i64 R,.int .i64 0,.bool false,.bool false] (by rfl) byR h1j (by unfold maxLen;omega) (by omega) (fun A3 c3 w3 own3 gr3 at3=>?_);obtain ⟨hbx3,hDj,hEj⟩:=HJ.out own3 gr3 at3;have hbj:=hDj.blk;simp only [List.length_append,List.length_cons,List.length_nil,List.length_set,Nat.zero_add] at hbx3;simp only [List.length_append,List.length_cons,List.length_nil,List.length_set,Nat.zero_add] at hbj;obtain ⟨cb3,fb3,zb3⟩:=blk hbx3;obtain ⟨cj3,fj3,zj3⟩:=blk hbj;have HTl:=refTell _ B _ _ _ hDj.dom (fun i b h=>(hDj.apart i b h).2) (by have:=gr3.size;simp at this⊢;omega) R 2 x rl (by dsimp only;omega);simp only [List.length_append,List.length_cons,List.length_nil,List.length_set,Nat.zero_add] at HTl;replace HTl:=zH HTl;replace hDj:=zH hDj;replace hEj:=zH hEj;clear cb1 fb1 cba fba)|(go_at_call 57;refine HTl.out.mono ?_;rintro e w4 ⟨A5,n5,G3,rfl,hO4,hE4⟩;obtain ⟨hb4,hD4,hK4⟩:=dp_put hDj.out hO4 hE4;simp only [List.length_append,List.length_cons,List.length_nil,List.length_set,Nat.zero_add] at hb4;simp only [List.length_append,List.length_cons,List.length_nil,List.length_set,Nat.zero_add] at hD4;simp only [List.length_append,List.length_cons,List.length_nil,List.length_set,Nat.zero_add] at hK4;obtain ⟨cb4,fb4,zb4⟩:=blk hb4;replace hD4:=zH hD4;replace hK4:=zH hK4;clear cj3 fj3 cb3 fb3))
        obtain ⟨_,hD1,hE1,hG1,ha1,hC1,htgt,hn1,_⟩:=hgo.out
        have hst:relStep c x d1= {d1 with jobs:=d1.jobs++[⟨x,rl,R,0,false,false⟩],events:=d1.events++[⟨R,2,x,rl⟩],released:=d1.released.set x (rl+1)} :=by unfold relStep;rw [if_pos hj,hR.out,hL.out]
        exact rel_on (T3:= {T1 with a0:=A3,n0:=c3,a5:=A5,n5:=n5}) hc hnow.2 hlt hxm hn1 htgt hev1 hC1 hD1 hE1 hG1 hcan (by rw [hst];exact hD4.out) ((KEff.trans (KEff.ext (by omega) (by rw [← hWa.out];exact below_drewN (Below.refl _ _) _)) hE1'.out).trans (hEj.out.trans hK4.out)) ha1 ha1
       ·have hj20:d1.jobs.length=20:=by have:=hd1.njobs;omega
        have hjn:((d1.jobs.length:Int)==20)=true:=by simp;omega
        have hst:relStep c x d1= {d1 with released:=d1.released.set x (rl+1)} :=by unfold relStep;rw [if_neg hj,hL.out]
        go_wp2_with fail
        obtain ⟨_,hD1,hE1,hG1,ha1,hC1,htgt,hn1,_⟩:=hgo.out
        exact rel_on hc hnow.2 hlt hxm hn1 htgt hev1 hC1 hD1 hE1 hG1 hcan (by rw [hst];exact hD1') (KEff.trans (KEff.ext (by omega) (by rw [← hWa.out];exact below_drewN (Below.refl _ _) _)) hE1') ha1 ha1
      ·go_wp2_with fail
       go_quiet (fail)
       go_wp2_with fail
       obtain ⟨h1,h2⟩:=hstop.out nq (by rw [relCan_stop,hR.out,hL.out];omega)
       exact ⟨⟨x+1,d1,by omega,by go_num,by rw [hup,upTo_step _ hlt,show relTask c dom now x d0=d1 from by unfold relTask;rw [if_pos hxm];exact h1.symm],hev1,h2⟩,by simp [intOf];omega⟩
     ·have hled:decide (R≤now)=false:=decide_eq_false hle
      go_wp2_with fail
      go_quiet (fail)
      go_wp2_with fail
      obtain ⟨h1,h2⟩:=hstop.out nq (by rw [relCan_stop,hR.out,hL.out];omega)
      exact ⟨⟨x+1,d1,by omega,by go_num,by rw [hup,upTo_step _ hlt,show relTask c dom now x d0=d1 from by unfold relTask;rw [if_pos hxm];exact h1.symm],hev1,h2⟩,by simp [intOf];omega⟩
   ·have hne:((nth c.tasks x).dom !=dom)=true:=by simp [hxm]
    go_wp2_with fail
    exact ⟨⟨x+1,d0,by omega,by go_num,by rw [hup,upTo_step _ hlt,show relTask c dom now x d0=d0 from by unfold relTask;rw [if_neg hxm]],hev0,hC0⟩,by simp [intOf];omega⟩
  ·obtain rfl:x=c.tasks.length:=by omega
   have hend:relAll c dom now d=d0:=by rw [hup];exact upTo_end _ (Nat.le_refl _) _
   go_wp2_with fail
   clear hi0
   obtain ⟨_,_,hD0',_⟩:=hC0.all
   obtain ⟨c9,f9,z9⟩:=blk hD0'.blk
   have hrl2:releaseOf c dom now d=upTo (missStep c now) (d0.jobs.length - 0) 0 d0:=by unfold releaseOf missAll;rw [hend];rfl
   have hnj:=hC0.ok.njobs
   have hev1:=hC0.ev
   clear c9 f9 z9
   have hC9:=hC0.weak (lim':=4398046511104 - 20+0) (by omega)
   clear hD0'
   go_loopw [12] (fun iv wr=>∃(i:Nat) (d2:TDom),i≤d0.jobs.length∧iv= .int .i64 i∧releaseOf c dom now d=upTo (missStep c now) (d0.jobs.length - i) i d2∧d2.jobs.length=d0.jobs.length∧Rm w G B c S dom none (4398046511104 - 20+i) d2 wr) (fun iv _=>d0.jobs.length - (intOf iv).toNat)
   case atStart=>exact ⟨0,d0,Nat.zero_le _,rfl,hrl2,rfl,hC9⟩
   case round=>
    clear hrl2 hC9 hC0 z0 c0 f0 hz0
    obtain ⟨i,d2,hi2,rfl,hup2,hlen,hC2⟩:=hrel
    obtain ⟨G1,T1,hD1,hE1,hG1,_⟩:=hC2.all
    have hok2:=hC2.ok
    have hz1:=hC2.size
    have hbk:=hD1.blk
    obtain ⟨cb,fb,zb⟩:=blk hbk
    by_cases hlt:i < d2.jobs.length
    ·obtain ⟨g,eg,hGg,hgl,k0,k1,k2,k3,k4,k5⟩:=hD1.dom.job_cells hlt
     clear cb fb zb
     rw [eg] at hbk
     obtain ⟨cb,fb,zb⟩:=blk hbk
     have hjo:=hok2.job i hlt
     have hmd:=hc.job hjo
     have hmst:missStep c now i d2=missStep c now i d2:=rfl
     conv at hmst=>rhs;unfold missStep lateOf
     generalize hJ:nth d2.jobs i=J at k0 k1 k2 k3 k4 k5 hjo hmd hmst
     obtain ⟨task,number,released,used,ran,missed⟩:=J
     dsimp only at k0 k1 k2 k3 k4 k5 hmd hmst
     obtain ⟨ht1,_,_,hjr,_⟩:=hjo
     dsimp only at ht1 hjr
     obtain ⟨ti,rfl⟩:=Int.eq_ofNat_of_zero_le ht1.1
     have hti:ti < c.tasks.length:=by omega
     obtain ⟨bt,ot,et,hIt,_,_,_,t3⟩:=hD1.cfg.s3.at_task hti
     rw [show taskOf c (ti:Int)=nth c.tasks ti by simp [taskOf]] at hmd hmst
     have hbc:=hC2.box0
     rw [et] at hbc
     have hIt:bt < B:=hIt
     have hB1:=hC2.hB
     have hbt:bt < wr.heap.size:=by omega
     generalize hDD:(nth c.tasks ti).dead=de at t3 hmd hmst
     replace hDD:=zH hDD
     have hwd:IntKind.i64.wrap (released+de)=released+de:=IntWalk.i64_in _ (by omega)
     generalize hLL:released+de=LL at hwd hmst
     have hwl:IntKind.i64.wrap LL=LL:=hwd
     obtain ⟨c0,f0,z0⟩:=blk hbc
     have hii0:(0:Int)≤i:=by omega
     have hil:(i:Int) < d2.jobs.length:=by omega
     have hti0:(0:Int)≤ti:=by omega
     have hgo:=zH (⟨hD1,hE1,hG1,hC2,hup2,hok2,hlen⟩:_∧_∧_∧_∧_∧_∧_)
     have heg:=zH eg
     have het:=zH et
     replace hmst:=zH hmst
     clear hD1 hE1 hG1 hC2 hup2 hok2 eg et hbk hbc hlen
     go_wp2_with fail
     generalize hW:wr.alloc (.cells #[.int .i64 (ti:Int),.int .i64 number,.int .i64 released,.int .i64 used,.bool ran,.bool missed] 110)=W1
     have hbx:W1.heap[wr.heap.size]?=some (.cells #[.int .i64 (ti:Int),.int .i64 number,.int .i64 released,.int .i64 used,.bool ran,.bool missed] 110):=by rw [← hW];exact heapAt _ _ _ rfl
     have hbr1:Below wr.heap.size wr W1:=(by rw [← hW];exact byB)
     replace hW:=zH hW
     have hsz1:=hbr1.size
     have hD2:=hgo.out.1.ext hbr1
     have t3':=(hbr1.cell (p:=⟨bt,ot+ti*4+3,none⟩) hbt).trans t3
     have hbc2:=hgo.out.2.2.2.1.box0
     rw [het.out] at hbc2
     have hbc3:=(hbr1.block _ (blk hbc2).2.2).trans hbc2
     obtain ⟨cx,fx,zx⟩:=blk hbx
     obtain ⟨cc,fc,zc⟩:=blk hbc3
     clear cb fb c0 f0 k0 k1 k2 k3 k4 k5 t3
     cases missed with
     |true=>
      go_quiet (fail)
      all_goals
       go_wp2_with fail
       exact ⟨⟨i+1,d2,by have:=hgo.out.2.2.2.2.2.2;omega,by go_num,by rw [hgo.out.2.2.2.2.1,upTo_step _ (by have:=hgo.out.2.2.2.2.2.2;omega),show missStep c now i d2=d2 from by rw [hmst.out];exact if_neg (by simp;try omega)],hgo.out.2.2.2.2.2.2,hgo.out.2.2.2.1.turn hgo.out.2.1 hgo.out.2.2.1 (hgo.out.1.ext (below_drewN hbr1 nq)) (KEff.ext (by omega) (below_drewN hbr1 nq)) (fun _ h=>by cases h) hgo.out.2.2.2.2.2.1 (by have:=hgo.out.2.2.2.1.ev;omega)⟩,by have:=hgo.out.2.2.2.2.2.2;simp [intOf];omega⟩
     |false=>
      by_cases hlate:LL≤now
      ·have hled:decide (LL≤now)=true:=decide_eq_true hlate
       go_quiet (fail)
       generalize hWa:W1.drewN nq=Wa
       have hDa:Dp (w.heap.size+1) G1 B Wa c S d2 T1:=by rw [← hWa];exact hD2.drewN nq
       have hbra:Below wr.heap.size wr Wa:=by rw [← hWa];exact below_drewN hbr1 nq
       have hbxa:Wa.heap[wr.heap.size]?=some (.cells #[.int .i64 (ti:Int),.int .i64 number,.int .i64 released,.int .i64 used,.bool ran,.bool false] 110):=by rw [← hWa];exact hbx
       have hbca:=(hbra.block _ (blk hbc2).2.2).trans hbc2
       replace hWa:=zH hWa
       obtain ⟨gm,egm,hGm,hgm,hjcm,hfrm,hDm,hEm⟩:=dp_miss hDa hlt
       obtain rfl:g=gm:=come_row heg.out egm
       have hbka:=hDa.blk
       rw [heg.out] at hbka
       obtain ⟨cba,fba,zba⟩:=blk hbka
       have c5a:=hjcm 5 _ rfl
       rw [hJ] at c5a
       clear cx fx zx cc fc zc hjcm egm
       replace hDa:=zH hDa
       replace hDm:=zH hDm
       replace hEm:=zH hEm
       go_wp2_with fail
       generalize hW3:Wa.setCell ⟨g,i*6+5,none⟩ (.bool true)=W3 at hDm hEm
       have hgw:g < wr.heap.size:=hgl
       have hlt9:=hgo.out.2.2.2.1.lt
       have hgb:g≠w.heap.size:=fun e=>by
        rcases hgo.out.2.2.1 0 _ hGg with h|h
        ·have:=hlt9 0 _ h;omega
        ·omega
       have hbx3:W3.heap[wr.heap.size]?=some (.cells #[.int .i64 (ti:Int),.int .i64 number,.int .i64 released,.int .i64 used,.bool ran,.bool false] 110):=by rw [← hW3];exact heap_set_far hbxa (by simp;omega)
       have hbc3':=(show W3.heap[w.heap.size]?=Wa.heap[w.heap.size]? by rw [← hW3];exact heap_set_far rfl (by simp;omega)).trans hbca
       have hgt:bt≠g:=fun e=>by
        have:=(hgo.out.1.apart 0 g hGg).2;omega
       have t3b:W3.cell? ⟨bt,ot+ti*4+3,none⟩=some (.int .i64 de):=by
        rw [← hW3];exact (cell_heapD (heap_set_far rfl (by simp;omega)) _).trans ((hbra.cell (p:=⟨bt,ot+ti*4+3,none⟩) hbt).trans ((hbr1.cell (p:=⟨bt,ot+ti*4+3,none⟩) hbt).symm.trans t3'))
       obtain ⟨cx3,fx3,zx3⟩:=blk hbx3
       obtain ⟨cc3,fc3,zc3⟩:=blk hbc3'
       have hbm:=hDm.out.blk
       simp only [List.length_append,List.length_cons,List.length_nil,List.length_set,Nat.zero_add] at hbm
       obtain ⟨cm3,fm3,zm3⟩:=blk hbm
       replace hW3:=zH hW3
       have HTl:=refTell G1 B W3.drew _ T1 (hDm.out.ext ((Below.refl _ _).drew)).dom (fun i b h=>(hDm.out.apart i b h).2) (show B≤W3.heap.size by omega) LL 6 (ti:Int) number (by have:=hgo.out.2.2.2.1.ev;have:=hgo.out.2.2.2.2.2.2;dsimp only;omega)
       simp only [List.length_append,List.length_cons,List.length_nil,List.length_set,Nat.zero_add] at HTl
       replace HTl:=zH HTl
       clear cba fba c5a t3'
       (refine wp_region_still_tail 15 (by kernel_rfl) (by kernel_rfl) ?_;simp only [List.take_succ_cons,List.take_zero,List.drop_succ_cons,List.drop_zero];(iterate 15 (with_reducible refine wpStill_step (fun K hK=>?_);replace hK:=zH hK;go_simp;with_reducible refine hK.out _ ?_;clear hK K));refine wpStill_nil ?_)
       change wpList _ _ _ _ _ W3.drew
       go_wp2_with (go_at_call 57;refine HTl.out.mono ?_;rintro e w4 ⟨A5,n5,G3,rfl,hO4,hE4⟩;obtain ⟨hb4,hD4,hK4⟩:=dp_put (hDm.out.ext ((Below.refl _ _).drew)) hO4 hE4;simp only [List.length_append,List.length_cons,List.length_nil,List.length_set,Nat.zero_add] at hb4;simp only [List.length_append,List.length_cons,List.length_nil,List.length_set,Nat.zero_add] at hD4;simp only [List.length_append,List.length_cons,List.length_nil,List.length_set,Nat.zero_add] at hK4;obtain ⟨cb4,fb4,zb4⟩:=blk hb4;replace hD4:=zH hD4;replace hK4:=zH hK4)
       have hst:missStep c now i d2= {d2 with jobs:=d2.jobs.set i {nth d2.jobs i with missed:=true},events:=d2.events++[⟨LL,6,ti,number⟩]} :=by
        rw [hmst.out,if_pos (by simpa using hlate),hJ]
       have hok4:=missStep_ok (now:=now) (i:=i) hgo.out.2.2.2.2.2.1
       have hl4:=missStep_length c now i d2
       have hlen:=hgo.out.2.2.2.2.2.2
       refine ⟨⟨i+1,missStep c now i d2,by omega,by go_num,by rw [hgo.out.2.2.2.2.1,upTo_step _ (by omega)],by omega,hgo.out.2.2.2.1.turn hgo.out.2.1 hgo.out.2.2.1 (by rw [hst];exact hD4.out) (((KEff.ext (by omega) hbra).trans hEm.out).trans ((KEff.ext (show B≤W3.heap.size by omega) (Below.refl _ _).drew).trans hK4.out)) (fun _ h=>by cases h) hok4 (by rw [hst];have:=hgo.out.2.2.2.1.ev;simp;omega)⟩,by simp [intOf];omega⟩
      ·have hled:decide (LL≤now)=false:=decide_eq_false hlate
       go_quiet (fail)
       go_wp2_with fail
       exact ⟨⟨i+1,d2,by have:=hgo.out.2.2.2.2.2.2;omega,by go_num,by rw [hgo.out.2.2.2.2.1,upTo_step _ (by have:=hgo.out.2.2.2.2.2.2;omega),show missStep c now i d2=d2 from by rw [hmst.out];exact if_neg (by simp;try omega)],hgo.out.2.2.2.2.2.2,hgo.out.2.2.2.1.turn hgo.out.2.1 hgo.out.2.2.1 (hgo.out.1.ext (below_drewN hbr1 nq)) (KEff.ext (by omega) (below_drewN hbr1 nq)) (fun _ h=>by cases h) hgo.out.2.2.2.2.2.1 (by have:=hgo.out.2.2.2.1.ev;omega)⟩,by have:=hgo.out.2.2.2.2.2.2;simp [intOf];omega⟩
    ·obtain rfl:i=d0.jobs.length:=by omega
     have hend2:releaseOf c dom now d=d2:=by rw [hup2];exact upTo_end _ (Nat.le_refl _) _
     obtain ⟨c2,f2,z2⟩:=blk hC2.box2
     replace hlen:=zH hlen
     go_wp2_with fail
     obtain ⟨cR,fR,zR⟩:=blk (dom_set (u0:= .slice T1.a0 d2.jobs.length T1.n0) (u1:= .slice T1.a1 d2.released.length T1.n1) (u2:= .int .i64 d2.next) (u3:= .slice T1.a2 d2.ins.length T1.n2) (u4:= .slice T1.a3 d2.taken.length T1.n3) (u5:= .slice T1.a4 d2.outs.length T1.n4) (u6:= .slice T1.a5 d2.events.length T1.n5) hC2.box2)
     refine bodyPost_ret (v:= .agg #[.slice T1.a0 d2.jobs.length T1.n0,.slice T1.a1 d2.released.length T1.n1,.int .i64 d2.next,.slice T1.a2 d2.ins.length T1.n2,.slice T1.a3 d2.taken.length T1.n3,.slice T1.a4 d2.outs.length T1.n4,.slice T1.a5 d2.events.length T1.n5]) (by simp [results,Try.results73,go_sem, *]) rfl ?_
     rw [hend2]
     have hlt:=hC2.lt
     have hne:∀i b,G1 i b→b≠w.heap.size+2:=fun i b hb=>by
      rcases hG1 i b hb with h|h
      ·have:=hlt i b h;omega
      ·omega
     exact ⟨T1,G1,rfl,hD1.dom.keep (fun i b hb=>dom_far (hne i b hb)) (by simp),⟨dom_below hE1.below (by have:=hC2.hB;omega),fun b hb hn=>(dom_far (by omega)).trans (hE1.keep b hb (by omega) hn),fun i b hb=>by simpa using hE1.grow i b hb⟩⟩
end Go.Proofs.Ytinlmkhlgclbfab
