/- ReadyB RdNew -/
import Derived.Test.YtinlmkhlgclbfabWv15
import Derived.Test.YtinlmkhlgclbfabWv29
namespace Go.Proofs.Ytinlmkhlgclbfab
open Go.RowKit
section
set_option maxRecDepth 100000
set_option maxHeartbeats 4000000
theorem readyRight (c:TCfg)(S:TCfgS)(dom:Int)(d:TDom)(T:TDomS)(hc:CfgOk c)(B:Nat)(w:World)(hB:B≤w.heap.size)(hs:TCfg.At (Low B) w c S)(hd:TDom.At (Low B) w d T):
  Calls Try.prog 51 #[.agg #[.int .i64 c.sets,.int .i64 c.ways,.int .i64 c.doms,.int .i64 c.pad,.int .i64 c.quantum,.slice S.a0 c.slots.length S.n0,.slice S.a1 c.owners.length S.n1,.slice S.a2 c.chans.length S.n2,.slice S.a3 c.tasks.length S.n3],.int .i64 dom,.agg #[.slice T.a0 d.jobs.length T.n0,.slice T.a1 d.released.length T.n1,.int .i64 d.next,.slice T.a2 d.ins.length T.n2,.slice T.a3 d.taken.length T.n3,.slice T.a4 d.outs.length T.n4,.slice T.a5 d.events.length T.n5]] w fun e w'=>e= .returned (.int .i64 (domErr c dom d))∧Below w.heap.size w w':=by
 obtain ⟨m0,m1,m2,m3⟩:=cfg_len hs
 obtain ⟨p0,p1,p2,p3,p4,p5⟩:=dom_len hd
 have h1:=hc.doms.1
 have h4:=hc.doms.2
 have H1:=zH (fun W=>configIsDomain c S dom h1 h4 W)
 have H2:=zH (fun W (h:Below w.heap.size w W)=>readyForm c S d T B W (Nat.le_trans hB h.size) (hd.next hB h))
 cases e1:isDom c.doms dom
 ·have R:=zH (show domErr c dom d=5 by unfold domErr;rw [e1];rfl)
  rw [e1] at H1
  clear hs hd hc e1
  go_enter Try.func51,Try.ntmps51
  go_wp2_with (go_at_call 91;refine (H1.out _).mono ?_;rintro e w1 ⟨rfl,hb1⟩)
  go_ret
  exact ⟨ret_int R.out.symm,byB⟩
 have R0:=zH (show domErr c dom d=thenE (formErr c d) (thenE (firstE d.jobs.length fun i=>jobErr c dom (nth d.jobs i)) (thenE (insErr c d) (firstE d.outs.length fun i=>outErr (nth d.outs i)))) by unfold domErr;rw [e1];rfl)
 rw [e1] at H1
 cases e2:decide (formErr c d=0)
 ·have e2:formErr c d≠0:=by simpa using e2
  have R:=zH (show domErr c dom d=formErr c d by rw [R0.out];unfold thenE;rw [if_neg e2])
  have b2:(formErr c d !=0)=true:=by simp [e2]
  clear hs hd hc e1 e2
  generalize formErr c d=FE at*
  go_enter Try.func51,Try.ntmps51
  go_wp2_with fail
  (go_at_call 91;refine (H1.out _).mono ?_;rintro e w1 ⟨rfl,hb_w1⟩;refine kbb (show w1.heap[w.heap.size]?=some (.cells #[.int .i64 c.sets,.int .i64 c.ways,.int .i64 c.doms,.int .i64 c.pad,.int .i64 c.quantum,.slice S.a0 c.slots.length S.n0,.slice S.a1 c.owners.length S.n1,.slice S.a2 c.chans.length S.n2,.slice S.a3 c.tasks.length S.n3] 27) from (hb_w1.block _ byS).trans byH) (fun c_w1 cc_w1 fc_w1 zc_w1=>?_);refine kbb (show w1.heap[w.heap.size+1]?=some (.cells #[.slice T.a0 d.jobs.length T.n0,.slice T.a1 d.released.length T.n1,.int .i64 d.next,.slice T.a2 d.ins.length T.n2,.slice T.a3 d.taken.length T.n3,.slice T.a4 d.outs.length T.n4,.slice T.a5 d.events.length T.n5] 45) from (hb_w1.block _ byS).trans byH) (fun d_w1 cd_w1 fd_w1 zd_w1=>?_);refine armT w hb_w1 (fun h_w1 s_w1 t_w1 hb_w1=>?_);(try simp at t_w1))
  go_wp2_with fail
  (go_at_call 93;refine (H2.out _ byB).mono ?_;rintro e w2 ⟨rfl,hb_w2⟩;refine kbb (kb c_w1 hb_w2) (fun c_w2 cc_w2 fc_w2 zc_w2=>?_);refine kbb (kb d_w1 hb_w2) (fun d_w2 cd_w2 fd_w2 zd_w2=>?_);refine armT w hb_w2 (fun h_w2 s_w2 t_w2 hb_w2=>?_);(try simp at t_w2);clear c_w1 cc_w1 fc_w1 d_w1 cd_w1 fd_w1)
  go_wp2_with fail
  go_ret
  exact ⟨ret_int R.out.symm,byB⟩
 have e2:formErr c d=0:=by simpa using e2
 have hli0:d.ins.length=c.chans.length:=by
  unfold formErr at e2
  rw [ite_zero (by omega)] at e2
  omega
 have hli:=zH hli0
 clear hli0
 have hj20:d.jobs.length≤20:=by
  unfold formErr at e2
  rw [ite_zero (by omega),ite_zero (by omega),ite_zero (by omega)] at e2
  omega
 have R1:=zH (show domErr c dom d=thenE (firstE d.jobs.length fun i=>jobErr c dom (nth d.jobs i)) (thenE (insErr c d) (firstE d.outs.length fun i=>outErr (nth d.outs i))) by rw [R0.out,e2];rfl)
 rw [e2] at H2
 have Q1:=zH (fun i hi (hq:∀j,j < i→jobErr c dom (nth d.jobs j)=0) (h:jobErr c dom (nth d.jobs i)≠0)=>show domErr c dom d=jobErr c dom (nth d.jobs i) by
  have e:firstE d.jobs.length (fun i=>jobErr c dom (nth d.jobs i))=jobErr c dom (nth d.jobs i):=firstE_hit hi hq h
  rw [R1.out];unfold thenE;rw [if_neg (by rw [e];exact h),e])
 have Q2:=zH (fun (hq:∀j,j < d.jobs.length→jobErr c dom (nth d.jobs j)=0)=>show domErr c dom d=thenE (insErr c d) (firstE d.outs.length fun i=>outErr (nth d.outs i)) by
  rw [R1.out,show firstE d.jobs.length (fun i=>jobErr c dom (nth d.jobs i))=0 from firstE_none hq];rfl)
 have Q3:=zH (fun i hi (hq:∀j,j < i→checkRing (nth d.ins j).vals (nth d.ins j).lost (nth c.chans j).size=0) (h:checkRing (nth d.ins i).vals (nth d.ins i).lost (nth c.chans i).size≠0)=>show thenE (insErr c d) (firstE d.outs.length fun i=>outErr (nth d.outs i))=checkRing (nth d.ins i).vals (nth d.ins i).lost (nth c.chans i).size by
  have e:insErr c d=checkRing (nth d.ins i).vals (nth d.ins i).lost (nth c.chans i).size:=firstE_hit hi hq h
  unfold thenE;rw [if_neg (by rw [e];exact h),e])
 have Q4:=zH (fun (hq:∀j,j < d.ins.length→checkRing (nth d.ins j).vals (nth d.ins j).lost (nth c.chans j).size=0)=>show thenE (insErr c d) (firstE d.outs.length fun i=>outErr (nth d.outs i))=firstE d.outs.length fun i=>outErr (nth d.outs i) by
  rw [show insErr c d=0 from firstE_none hq];rfl)
 have Q5:=zH (fun i hi (hq:∀j,j < i→outErr (nth d.outs j)=0) (h:outErr (nth d.outs i)≠0)=>show firstE d.outs.length (fun i=>outErr (nth d.outs i))=outErr (nth d.outs i) from firstE_hit hi hq h)
 have Q6:=zH (fun (hq:∀j,j < d.outs.length→outErr (nth d.outs j)=0)=>show firstE d.outs.length (fun i=>outErr (nth d.outs i))=0 from firstE_none hq)
 have HSC:=hs
 obtain ⟨a0,n0,a1,n1,a2,n2,a3,n3⟩:=S
 obtain ⟨hs0,hs1,hs2,hs3⟩:=hs
 have HJ:=fun j W (h:Below w.heap.size w W)=>readyJob c _ dom j hc B W (Nat.le_trans hB h.size) (HSC.next hB h)
 dsimp only at hs0 hs1 hs2 hs3 H1 H2 HJ⊢
 have HJ:=zH HJ
 obtain ⟨e0,k0,e1',k1,e2',k2,e3,k3,e4,k4,e5,k5⟩:=T
 obtain ⟨hd0,hd1,hd2,hd3,hd4,hd5⟩:=hd
 dsimp only at hd0 hd1 hd2 hd3 hd4 hd5 H2⊢
 clear hc e1 e2 R0 R1 HSC
 go_enter Try.func51,Try.ntmps51
 go_wp2_with fail
 (go_at_call 91;refine (H1.out _).mono ?_;rintro e w1 ⟨rfl,hb_w1⟩;refine kbb (show w1.heap[w.heap.size]?=some (.cells #[.int .i64 c.sets,.int .i64 c.ways,.int .i64 c.doms,.int .i64 c.pad,.int .i64 c.quantum,.slice a0 c.slots.length n0,.slice a1 c.owners.length n1,.slice a2 c.chans.length n2,.slice a3 c.tasks.length n3] 27) from (hb_w1.block _ byS).trans byH) (fun c_w1 cc_w1 fc_w1 zc_w1=>?_);refine kbb (show w1.heap[w.heap.size+1]?=some (.cells #[.slice e0 d.jobs.length k0,.slice e1' d.released.length k1,.int .i64 d.next,.slice e2' d.ins.length k2,.slice e3 d.taken.length k3,.slice e4 d.outs.length k4,.slice e5 d.events.length k5] 45) from (hb_w1.block _ byS).trans byH) (fun d_w1 cd_w1 fd_w1 zd_w1=>?_);refine armT w hb_w1 (fun h_w1 s_w1 t_w1 hb_w1=>?_);(try simp at t_w1))
 go_wp2_with fail
 (go_at_call 93;refine (H2.out _ byB).mono ?_;rintro e w2 ⟨rfl,hb_w2⟩;refine kbb (kb c_w1 hb_w2) (fun c_w2 cc_w2 fc_w2 zc_w2=>?_);refine kbb (kb d_w1 hb_w2) (fun d_w2 cd_w2 fd_w2 zd_w2=>?_);refine armT w hb_w2 (fun h_w2 s_w2 t_w2 hb_w2=>?_);(try simp at t_w2);clear c_w1 cc_w1 fc_w1 d_w1 cd_w1 fd_w1)
 go_wp2_with fail
 go_loopw [29] (fun iv wr=>∃i:Nat,i≤d.jobs.length∧iv= .int .i64 i∧Hid (∀j,j < i→jobErr c dom (nth d.jobs j)=0)∧wr.heap[w.heap.size]?=some (.cells #[.int .i64 c.sets,.int .i64 c.ways,.int .i64 c.doms,.int .i64 c.pad,.int .i64 c.quantum,.slice a0 c.slots.length n0,.slice a1 c.owners.length n1,.slice a2 c.chans.length n2,.slice a3 c.tasks.length n3] 27)∧wr.heap[w.heap.size+1]?=some (.cells #[.slice e0 d.jobs.length k0,.slice e1' d.released.length k1,.int .i64 d.next,.slice e2' d.ins.length k2,.slice e3 d.taken.length k3,.slice e4 d.outs.length k4,.slice e5 d.events.length k5] 45)∧Below w.heap.size w wr) (fun iv _=>d.jobs.length - (intOf iv).toNat)
 case atStart=>exact ⟨0,Nat.zero_le _,rfl,(fun j hj=>by omega),c_w2,d_w2,h_w2⟩
 case round=>
  clear hb_w2 c_w2 d_w2 h_w2 cc_w2 fc_w2 zc_w2 cd_w2 fd_w2 zd_w2 hb_w1 h_w1
  obtain ⟨i,hi,rfl,hq,hp,hpd,hbr⟩:=hrel
  obtain ⟨cp,fp,zp⟩:=blk hp
  obtain ⟨cpd,fpd,zpd⟩:=blk hpd
  have so:=hbr.size
  by_cases hlt:i < d.jobs.length
  ·obtain ⟨b,o,rfl,hI,hc0,hc1,hc2,hc3,hc4,hc5⟩:=(hd0.next hB hbr).at_job hlt
   have hbl:b < w.heap.size:=Nat.lt_of_lt_of_le hI hB
   have hbr':b < wr.heap.size:=by omega
   have hi0:(0:Int)≤i:=by omega
   have hi1:(i:Int) < d.jobs.length:=by omega
   have HJ1:=HJ.out (nth d.jobs i)
   cases e1:decide (jobErr c dom (nth d.jobs i)=0)
   ·have e1:jobErr c dom (nth d.jobs i)≠0:=by simpa using e1
    have R:=zH (Q1.out i hlt hq.out e1)
    have b1:(jobErr c dom (nth d.jobs i) !=0)=true:=by simp [e1]
    have HJ1:=zH HJ1
    clear e1
    generalize jobErr c dom (nth d.jobs i)=JE at*
    go_wp2_with fail
    (go_at_call 94;refine (HJ1.out _ byB).mono ?_;rintro e w1 ⟨rfl,hb_w1⟩;refine armT w hb_w1 (fun h_w1 s_w1 t_w1 hb_w1=>?_);(try simp at t_w1))
    go_wp2_with fail
    go_ret
    exact ⟨ret_int R.out.symm,byB⟩
   ·have e1:jobErr c dom (nth d.jobs i)=0:=by simpa using e1
    rw [e1] at HJ1
    have HJ1:=zH HJ1
    have R:=zH e1
    clear e1
    go_wp2_with fail
    (go_at_call 94;refine (HJ1.out _ byB).mono ?_;rintro e w1 ⟨rfl,hb_w1⟩;refine kbb (show w1.heap[w.heap.size]?=some (.cells #[.int .i64 c.sets,.int .i64 c.ways,.int .i64 c.doms,.int .i64 c.pad,.int .i64 c.quantum,.slice a0 c.slots.length n0,.slice a1 c.owners.length n1,.slice a2 c.chans.length n2,.slice a3 c.tasks.length n3] 27) from (hb_w1.block _ byS).trans byH) (fun c_w1 cc_w1 fc_w1 zc_w1=>?_);refine kbb (show w1.heap[w.heap.size+1]?=some (.cells #[.slice (some ⟨b,o,none⟩) d.jobs.length k0,.slice e1' d.released.length k1,.int .i64 d.next,.slice e2' d.ins.length k2,.slice e3 d.taken.length k3,.slice e4 d.outs.length k4,.slice e5 d.events.length k5] 45) from (hb_w1.block _ byS).trans byH) (fun d_w1 cd_w1 fd_w1 zd_w1=>?_);refine armT w hb_w1 (fun h_w1 s_w1 t_w1 hb_w1=>?_);(try simp at t_w1))
    go_wp2_with fail
    go_roundw
    case rel=>exact ⟨i+1,by omega,by go_num,(fun j hj=>by
     by_cases e:j=i
     ·subst e;exact R.out
     ·exact hq.out j (by omega)),byH,byH,byB⟩
    case measure=>simp [intOf];omega
  ·obtain rfl:i=d.jobs.length:=by omega
   have RA:=zH (Q2.out hq.out)
   clear hq Q1 Q2 HJ
   go_wp2_with fail
   go_loopw [44] (fun iv wr=>∃i:Nat,i≤d.ins.length∧iv= .int .i64 i∧Hid (∀j,j < i→checkRing (nth d.ins j).vals (nth d.ins j).lost (nth c.chans j).size=0)∧wr.heap[w.heap.size]?=some (.cells #[.int .i64 c.sets,.int .i64 c.ways,.int .i64 c.doms,.int .i64 c.pad,.int .i64 c.quantum,.slice a0 c.slots.length n0,.slice a1 c.owners.length n1,.slice a2 c.chans.length n2,.slice a3 c.tasks.length n3] 27)∧wr.heap[w.heap.size+1]?=some (.cells #[.slice e0 d.jobs.length k0,.slice e1' d.released.length k1,.int .i64 d.next,.slice e2' d.ins.length k2,.slice e3 d.taken.length k3,.slice e4 d.outs.length k4,.slice e5 d.events.length k5] 45)∧Below w.heap.size w wr) (fun iv _=>d.ins.length - (intOf iv).toNat)
   case atStart=>exact ⟨0,Nat.zero_le _,rfl,(fun j hj=>by omega),hp,hpd,hbr⟩
   case round=>
    clear hp hpd hbr cp fp zp cpd fpd zpd so
    obtain ⟨i,hi,rfl,hq,hp,hpd,hbr⟩:=hrel
    obtain ⟨cp,fp,zp⟩:=blk hp
    obtain ⟨cpd,fpd,zpd⟩:=blk hpd
    have so:=hbr.size
    by_cases hlt:i < d.ins.length
    ·obtain ⟨b,o,A',c',rfl,hI,hc0,hc1,hin⟩:=(hd2.next hB hbr).at_ring hlt
     obtain ⟨b2,o2,rfl,hI2,q0,q1,q2⟩:=(hs2.next hB hbr).at_chan (show i < c.chans.length by rw [← hli.out];exact hlt)
     have hbl:b < w.heap.size:=Nat.lt_of_lt_of_le hI hB
     have hbr':b < wr.heap.size:=by omega
     have hbl2:b2 < w.heap.size:=Nat.lt_of_lt_of_le hI2 hB
     have hbr2:b2 < wr.heap.size:=by omega
     have hi0:(0:Int)≤i:=by omega
     have hi1:(i:Int) < d.ins.length:=by omega
     have hi2:(i:Int) < c.chans.length:=by rw [← hli.out];exact hi1
     have HC1:=fun W (h:Below wr.heap.size wr W)=>mailCheck (nth d.ins i).vals (nth d.ins i).lost (nth c.chans i).size A' c' B W (Nat.le_trans (Nat.le_trans hB so) h.size) (hin.next (Nat.le_trans hB so) h)
     clear hin
     cases e1:decide (checkRing (nth d.ins i).vals (nth d.ins i).lost (nth c.chans i).size=0)
     ·have e1:checkRing (nth d.ins i).vals (nth d.ins i).lost (nth c.chans i).size≠0:=by simpa using e1
      have R:=zH (RA.out.trans (Q3.out i hlt hq.out e1))
      have b1:(checkRing (nth d.ins i).vals (nth d.ins i).lost (nth c.chans i).size !=0)=true:=by simp [e1]
      have HC1:=zH HC1
      clear e1
      generalize checkRing (nth d.ins i).vals (nth d.ins i).lost (nth c.chans i).size=JE at*
      go_wp2_with fail
      go_region_held3 (fun w'=>(∀oo,w'.cell? ⟨w.heap.size,oo,none⟩=#[.int .i64 c.sets,.int .i64 c.ways,.int .i64 c.doms,.int .i64 c.pad,.int .i64 c.quantum,.slice a0 c.slots.length n0,.slice a1 c.owners.length n1,.slice (some ⟨b2,o2,none⟩) c.chans.length n2,.slice a3 c.tasks.length n3][oo]?)∧w'.cell? ⟨b2,o2+i*3+2,none⟩=some (.int .i64 (nth c.chans i).size)∧w'.cell? ⟨wr.heap.size,0,none⟩=some (.slice A' (nth d.ins i).vals.length c')∧w'.cell? ⟨wr.heap.size,1,none⟩=some (.int .i64 (nth d.ins i).lost)) (((try dsimp only);(repeat' apply And.intro)<;>(first|exact fun oo=>(Below.cell (B:=wr.heap.size) (w:=wr) byB (by first|assumption|omega)).trans (cp oo)|exact (Below.cell (B:=wr.heap.size) (w:=wr) byB (by first|assumption|omega)).trans (by assumption)|go_keep|(simp [go_sem, *];done))))
       (first|(go_at_call 95;refine (HC1.out _ byB).mono ?_;rintro e w1 ⟨rfl,hb_w1⟩;refine kbb (show w1.heap[wr.heap.size]?=some (.cells #[.slice A' (nth d.ins i).vals.length c',.int .i64 (nth d.ins i).lost] 113) from (hb_w1.block _ byS).trans byH) (fun x_w1 cx_w1 fx_w1 zx_w1=>?_);refine armT w hb_w1 (fun h_w1 s_w1 t_w1 hb_w1=>?_);(try simp at t_w1)))
      all_goals
       go_wp2_with fail
       go_ret
       exact ⟨ret_int R.out.symm,byB⟩
     ·have e1:checkRing (nth d.ins i).vals (nth d.ins i).lost (nth c.chans i).size=0:=by simpa using e1
      rw [e1] at HC1
      have HC1:=zH HC1
      have R:=zH e1
      clear e1
      go_wp2_with fail
      go_region_held3 (fun w'=>(∀oo,w'.cell? ⟨w.heap.size,oo,none⟩=#[.int .i64 c.sets,.int .i64 c.ways,.int .i64 c.doms,.int .i64 c.pad,.int .i64 c.quantum,.slice a0 c.slots.length n0,.slice a1 c.owners.length n1,.slice (some ⟨b2,o2,none⟩) c.chans.length n2,.slice a3 c.tasks.length n3][oo]?)∧w'.cell? ⟨b2,o2+i*3+2,none⟩=some (.int .i64 (nth c.chans i).size)∧w'.cell? ⟨wr.heap.size,0,none⟩=some (.slice A' (nth d.ins i).vals.length c')∧w'.cell? ⟨wr.heap.size,1,none⟩=some (.int .i64 (nth d.ins i).lost)) (((try dsimp only);(repeat' apply And.intro)<;>(first|exact fun oo=>(Below.cell (B:=wr.heap.size) (w:=wr) byB (by first|assumption|omega)).trans (cp oo)|exact (Below.cell (B:=wr.heap.size) (w:=wr) byB (by first|assumption|omega)).trans (by assumption)|go_keep|(simp [go_sem, *];done))))
       (first|(go_at_call 95;refine (HC1.out _ byB).mono ?_;rintro e w1 ⟨rfl,hb_w1⟩;refine kbb (show w1.heap[wr.heap.size]?=some (.cells #[.slice A' (nth d.ins i).vals.length c',.int .i64 (nth d.ins i).lost] 113) from (hb_w1.block _ byS).trans byH) (fun x_w1 cx_w1 fx_w1 zx_w1=>?_);refine kbb (show w1.heap[w.heap.size]?=some (.cells #[.int .i64 c.sets,.int .i64 c.ways,.int .i64 c.doms,.int .i64 c.pad,.int .i64 c.quantum,.slice a0 c.slots.length n0,.slice a1 c.owners.length n1,.slice (some ⟨b2,o2,none⟩) c.chans.length n2,.slice a3 c.tasks.length n3] 27) from (hb_w1.block _ byS).trans byH) (fun c_w1 cc_w1 fc_w1 zc_w1=>?_);refine kbb (show w1.heap[w.heap.size+1]?=some (.cells #[.slice e0 d.jobs.length k0,.slice e1' d.released.length k1,.int .i64 d.next,.slice (some ⟨b,o,none⟩) d.ins.length k2,.slice e3 d.taken.length k3,.slice e4 d.outs.length k4,.slice e5 d.events.length k5] 45) from (hb_w1.block _ byS).trans byH) (fun d_w1 cd_w1 fd_w1 zd_w1=>?_);refine armT w hb_w1 (fun h_w1 s_w1 t_w1 hb_w1=>?_);(try simp at t_w1)))
      all_goals
       go_wp2_with fail
       go_roundw
       case rel=>exact ⟨i+1,by omega,by go_num,(fun j hj=>by
        by_cases e:j=i
        ·subst e;exact R.out
        ·exact hq.out j (by omega)),byH,byH,byB⟩
       case measure=>simp [intOf];omega
    ·obtain rfl:i=d.ins.length:=by omega
     have RB:=zH (RA.out.trans (Q4.out hq.out))
     clear hq Q3 Q4 RA
     go_wp2_with fail
     go_loopw [64] (fun iv wr=>∃i:Nat,i≤d.outs.length∧iv= .int .i64 i∧Hid (∀j,j < i→outErr (nth d.outs j)=0)∧Below w.heap.size w wr) (fun iv _=>d.outs.length - (intOf iv).toNat)
     case atStart=>exact ⟨0,Nat.zero_le _,rfl,(fun j hj=>by omega),hbr⟩
     case round=>
      clear hp hpd hbr cp fp zp cpd fpd zpd so
      obtain ⟨i,hi,rfl,hq,hbr⟩:=hrel
      have so:=hbr.size
      by_cases hlt:i < d.outs.length
      ·obtain ⟨b,o,A',c',rfl,hI,hc0,hin⟩:=(hd4.next hB hbr).at_slice hlt
       have hbl:b < w.heap.size:=Nat.lt_of_lt_of_le hI hB
       have hbr':b < wr.heap.size:=by omega
       have hi0:(0:Int)≤i:=by omega
       have hi1:(i:Int) < d.outs.length:=by omega
       have hml:=Nat.le_trans hin.cap hin.max
       unfold maxLen at hml
       have HV:=fun W (h:Below wr.heap.size wr W)=>mailValues (nth d.outs i) A' c' B W (Nat.le_trans (Nat.le_trans hB so) h.size) (hin.next (Nat.le_trans hB so) h)
       clear hin
       cases e1:decide (60 < ((nth d.outs i).length:Int))
       case true=>
        have R0:=zH (show outErr (nth d.outs i)=2 by unfold outErr;rw [if_pos (by simp at e1;omega)])
        have R:=zH (RB.out.trans ((Q5.out i hlt hq.out (by rw [R0.out];decide)).trans R0.out))
        clear HV
        go_wp2_with fail
        go_ret
        exact ⟨ret_int R.out.symm,byB⟩
       have R1:=zH (show outErr (nth d.outs i)=if !areValues (nth d.outs i) then 3 else 0 by unfold outErr;rw [if_neg (by simp at e1;omega)])
       cases e2:areValues (nth d.outs i)
       ·have R0:=zH (show outErr (nth d.outs i)=3 by rw [R1.out,e2];rfl)
        have R:=zH (RB.out.trans ((Q5.out i hlt hq.out (by rw [R0.out];decide)).trans R0.out))
        rw [e2] at HV
        have HV:=zH HV
        clear e2
        go_wp2_with fail
        (go_at_call 96;refine (HV.out _ byB).mono ?_;rintro e w1 ⟨rfl,hb_w1⟩;refine armT w hb_w1 (fun h_w1 s_w1 t_w1 hb_w1=>?_);(try simp at t_w1))
        go_wp2_with fail
        go_ret
        exact ⟨ret_int R.out.symm,byB⟩
       ·have R:=zH (show outErr (nth d.outs i)=0 by rw [R1.out,e2];rfl)
        rw [e2] at HV
        have HV:=zH HV
        clear e2
        go_wp2_with fail
        (go_at_call 96;refine (HV.out _ byB).mono ?_;rintro e w1 ⟨rfl,hb_w1⟩;refine armT w hb_w1 (fun h_w1 s_w1 t_w1 hb_w1=>?_);(try simp at t_w1))
        go_wp2_with fail
        go_roundw
        case rel=>exact ⟨i+1,by omega,by go_num,(fun j hj=>by
         by_cases e:j=i
         ·subst e;exact R.out
         ·exact hq.out j (by omega)),byB⟩
        case measure=>simp [intOf];omega
      ·obtain rfl:i=d.outs.length:=by omega
       have R:=zH (RB.out.trans (Q6.out hq.out))
       go_wp2_with fail
       go_ret
       exact ⟨ret_int R.out.symm,hbr⟩
theorem readyCheck (c:TCfg)(S:TCfgS)(dom:Int)(d:TDom)(T:TDomS)(B:Nat)(w:World)(hB:B≤w.heap.size)(hs:TCfg.At (Low B) w c S)(hd:TDom.At (Low B) w d T):
  Calls Try.prog 70 #[.agg #[.int .i64 c.sets,.int .i64 c.ways,.int .i64 c.doms,.int .i64 c.pad,.int .i64 c.quantum,.slice S.a0 c.slots.length S.n0,.slice S.a1 c.owners.length S.n1,.slice S.a2 c.chans.length S.n2,.slice S.a3 c.tasks.length S.n3],.int .i64 dom,.agg #[.slice T.a0 d.jobs.length T.n0,.slice T.a1 d.released.length T.n1,.int .i64 d.next,.slice T.a2 d.ins.length T.n2,.slice T.a3 d.taken.length T.n3,.slice T.a4 d.outs.length T.n4,.slice T.a5 d.events.length T.n5]] w fun e w'=>e= .returned (.int .i64 (checkBoth c dom d))∧Below w.heap.size w w':=by
 have H1:=zH (fun W (h:Below w.heap.size w W)=>configCheck c S B W (Nat.le_trans hB h.size) (hs.next hB h))
 cases e1:decide (checkConfig c=0)
 ·have e1:checkConfig c≠0:=by simpa using e1
  have R:=zH (show checkBoth c dom d=checkConfig c by unfold checkBoth thenE;rw [if_neg e1])
  have b1:(checkConfig c !=0)=true:=by simp [e1]
  clear hs hd e1
  generalize checkConfig c=CE at*
  go_enter Try.func70,Try.ntmps70
  go_wp2_with (go_at_call 45;refine (H1.out _ byB).mono ?_;rintro e w1 ⟨rfl,hb1⟩)
  go_ret
  exact ⟨ret_int R.out.symm,byB⟩
 have e1:checkConfig c=0:=by simpa using e1
 have R:=zH (show checkBoth c dom d=domErr c dom d by unfold checkBoth;rw [e1];rfl)
 have hc:=checkConfig_ok e1
 have H2:=zH (fun W (h:Below w.heap.size w W)=>readyRight c S dom d T hc B W (Nat.le_trans hB h.size) (hs.next hB h) (hd.next hB h))
 rw [e1] at H1
 clear hs hd hc e1
 go_enter Try.func70,Try.ntmps70
 go_wp2_with fail
 (go_at_call 45;refine (H1.out _ byB).mono ?_;rintro e w1 ⟨rfl,hb_w1⟩;refine kbb (show w1.heap[w.heap.size]?=some (.cells #[.int .i64 c.sets,.int .i64 c.ways,.int .i64 c.doms,.int .i64 c.pad,.int .i64 c.quantum,.slice S.a0 c.slots.length S.n0,.slice S.a1 c.owners.length S.n1,.slice S.a2 c.chans.length S.n2,.slice S.a3 c.tasks.length S.n3] 27) from (hb_w1.block _ byS).trans byH) (fun c_w1 cc_w1 fc_w1 zc_w1=>?_);refine kbb (show w1.heap[w.heap.size+1]?=some (.cells #[.slice T.a0 d.jobs.length T.n0,.slice T.a1 d.released.length T.n1,.int .i64 d.next,.slice T.a2 d.ins.length T.n2,.slice T.a3 d.taken.length T.n3,.slice T.a4 d.outs.length T.n4,.slice T.a5 d.events.length T.n5] 45) from (hb_w1.block _ byS).trans byH) (fun d_w1 cd_w1 fd_w1 zd_w1=>?_);refine armT w hb_w1 (fun h_w1 s_w1 t_w1 hb_w1=>?_);(try simp at t_w1))
 go_wp2_with fail
 (go_at_call 51;refine (H2.out _ byB).mono ?_;rintro e w2 ⟨rfl,hb_w2⟩;refine kbb (kb c_w1 hb_w2) (fun c_w2 cc_w2 fc_w2 zc_w2=>?_);refine kbb (kb d_w1 hb_w2) (fun d_w2 cd_w2 fd_w2 zd_w2=>?_);refine armT w hb_w2 (fun h_w2 s_w2 t_w2 hb_w2=>?_);(try simp at t_w2);clear c_w1 cc_w1 fc_w1 d_w1 cd_w1 fd_w1)
 go_wp2_with fail
 go_ret
 exact ⟨ret_int R.out.symm,byB⟩
def noDom:TDom:=⟨[],[],0,[],[],[],[]⟩
def noDomS:TDomS:=⟨none,0,none,0,none,0,none,0,none,0,none,0⟩
def newErr (c:TCfg) (dom:Int):Int:=if checkConfig c≠0 then checkConfig c else if isDom c.doms dom then 0 else 5
def newOf (c:TCfg) (dom:Int):TDom:=if newErr c dom=0 then freshOf c else noDom
theorem noDom_own (w:World):DomO (fun _ _=>False) w noDom noDomS:=
 ⟨OZl.nil _ _ _ _,OZl.nil _ _ _ _,OZl.nil _ _ _ _,OZl.nil _ _ _ _,OZl.nil _ _ _ _,OZl.nil _ _ _ _,fun _ _ _ _ h=>h.elim,fun _ _ h=>h.elim⟩
def RetDomE (d:TDom) (err:Int) (w:World) (e:Ending) (w':World):Prop:=∃T G,e= .returned (.tuple #[.agg #[.slice T.a0 d.jobs.length T.n0,.slice T.a1 d.released.length T.n1,.int .i64 d.next,.slice T.a2 d.ins.length T.n2,.slice T.a3 d.taken.length T.n3,.slice T.a4 d.outs.length T.n4,.slice T.a5 d.events.length T.n5],.int .i64 err])∧DomO G w' d T∧(∀i b,G i b→w.heap.size≤b)∧Below w.heap.size w w'
theorem readyNew (c:TCfg)(S:TCfgS)(dom:Int)(B:Nat)(w:World)(hB:B≤w.heap.size)(hs:TCfg.At (Low B) w c S):
  Calls Try.prog 50 #[.agg #[.int .i64 c.sets,.int .i64 c.ways,.int .i64 c.doms,.int .i64 c.pad,.int .i64 c.quantum,.slice S.a0 c.slots.length S.n0,.slice S.a1 c.owners.length S.n1,.slice S.a2 c.chans.length S.n2,.slice S.a3 c.tasks.length S.n3],.int .i64 dom] w (RetDomE (newOf c dom) (newErr c dom) w):=by
 have H1:=zH (fun W (h:Below w.heap.size w W)=>configCheck c S B W (Nat.le_trans hB h.size) (hs.next hB h))
 by_cases e1:checkConfig c=0
 ·have ok:=checkConfig_ok e1
  have H2:=zH (fun W=>configIsDomain c S dom ok.doms.1 ok.doms.2 W)
  have H3:=zH (fun W=>readyFresh c S ok W)
  clear ok
  generalize e2:isDom c.doms dom=b2 at*
  cases b2
  ·go_enter Try.func50,Try.ntmps50
   go_wp2_with (first|(go_at_call 45;refine (H1.out _ byB).mono ?_;rintro e w2 ⟨rfl,hb2⟩;have s2:=hb2.size;(try simp at s2);have hbx:w2.heap[w.heap.size]?=some (.cells #[.int .i64 c.sets,.int .i64 c.ways,.int .i64 c.doms,.int .i64 c.pad,.int .i64 c.quantum,.slice S.a0 c.slots.length S.n0,.slice S.a1 c.owners.length S.n1,.slice S.a2 c.chans.length S.n2,.slice S.a3 c.tasks.length S.n3] 27):=(hb2.block _ (by simp;omega)).trans (by exact byH);have hby:w2.heap[w.heap.size+1]?=some (.cells #[.slice none 0 0,.slice none 0 0,.int .i64 0,.slice none 0 0,.slice none 0 0,.slice none 0 0,.slice none 0 0] 45):=(hb2.block _ (by simp)).trans (by exact byH);obtain ⟨cx,fx,zx⟩:=blk hbx;obtain ⟨cy,fy,zy⟩:=blk hby;have hbw2:Below w.heap.size w w2:=byB;rw [e1])|(go_at_call 91;refine (H2.out _).mono ?_;rintro e w3 ⟨rfl,hb3⟩;have s3:=hb3.size;(try simp at s3);have hbx3:w3.heap[w.heap.size]?=some (.cells #[.int .i64 c.sets,.int .i64 c.ways,.int .i64 c.doms,.int .i64 c.pad,.int .i64 c.quantum,.slice S.a0 c.slots.length S.n0,.slice S.a1 c.owners.length S.n1,.slice S.a2 c.chans.length S.n2,.slice S.a3 c.tasks.length S.n3] 27):=(hb3.block _ (by first|exact zx|simpa using zx)).trans hbx;obtain ⟨cx3,fx3,zx3⟩:=blk hbx3;have hby3:w3.heap[w.heap.size+1]?=some (.cells #[.slice none 0 0,.slice none 0 0,.int .i64 0,.slice none 0 0,.slice none 0 0,.slice none 0 0,.slice none 0 0] 45):=(hb3.block _ (by first|exact zy|simpa using zy)).trans hby;obtain ⟨cy3,fy3,zy3⟩:=blk hby3;have hbw3:Below w.heap.size w w3:=byB))
   obtain ⟨cr,fr,zr⟩:=blk (dom_set (u0:= .slice none 0 0) (u1:= .slice none 0 0) (u2:= .int .i64 0) (u3:= .slice none 0 0) (u4:= .slice none 0 0) (u5:= .slice none 0 0) (u6:= .slice none 0 0) hby3)
   refine bodyPost_ret (v:= .tuple #[.agg #[.slice none 0 0,.slice none 0 0,.int .i64 0,.slice none 0 0,.slice none 0 0,.slice none 0 0,.slice none 0 0],.int .i64 5]) (by simp [results,Try.results50,go_sem, *]) rfl ?_
   rw [show newErr c dom=5 from by simp [newErr,e1,e2]]
   rw [show newOf c dom=noDom from by unfold newOf;rw [show newErr c dom=5 from by simp [newErr,e1,e2]];exact if_neg (by first|decide|assumption)]
   exact ⟨noDomS,fun _ _=>False,rfl,noDom_own _,fun _ _ h=>h.elim,dom_below hbw3 (by omega)⟩
  ·go_enter Try.func50,Try.ntmps50
   go_wp2_with (first|(go_at_call 45;refine (H1.out _ byB).mono ?_;rintro e w2 ⟨rfl,hb2⟩;have s2:=hb2.size;(try simp at s2);have hbx:w2.heap[w.heap.size]?=some (.cells #[.int .i64 c.sets,.int .i64 c.ways,.int .i64 c.doms,.int .i64 c.pad,.int .i64 c.quantum,.slice S.a0 c.slots.length S.n0,.slice S.a1 c.owners.length S.n1,.slice S.a2 c.chans.length S.n2,.slice S.a3 c.tasks.length S.n3] 27):=(hb2.block _ (by simp;omega)).trans (by exact byH);have hby:w2.heap[w.heap.size+1]?=some (.cells #[.slice none 0 0,.slice none 0 0,.int .i64 0,.slice none 0 0,.slice none 0 0,.slice none 0 0,.slice none 0 0] 45):=(hb2.block _ (by simp)).trans (by exact byH);obtain ⟨cx,fx,zx⟩:=blk hbx;obtain ⟨cy,fy,zy⟩:=blk hby;have hbw2:Below w.heap.size w w2:=byB;rw [e1])|(go_at_call 91;refine (H2.out _).mono ?_;rintro e w3 ⟨rfl,hb3⟩;have s3:=hb3.size;(try simp at s3);have hbx3:w3.heap[w.heap.size]?=some (.cells #[.int .i64 c.sets,.int .i64 c.ways,.int .i64 c.doms,.int .i64 c.pad,.int .i64 c.quantum,.slice S.a0 c.slots.length S.n0,.slice S.a1 c.owners.length S.n1,.slice S.a2 c.chans.length S.n2,.slice S.a3 c.tasks.length S.n3] 27):=(hb3.block _ (by first|exact zx|simpa using zx)).trans hbx;obtain ⟨cx3,fx3,zx3⟩:=blk hbx3;have hby3:w3.heap[w.heap.size+1]?=some (.cells #[.slice none 0 0,.slice none 0 0,.int .i64 0,.slice none 0 0,.slice none 0 0,.slice none 0 0,.slice none 0 0] 45):=(hb3.block _ (by first|exact zy|simpa using zy)).trans hby;obtain ⟨cy3,fy3,zy3⟩:=blk hby3;have hbw3:Below w.heap.size w w3:=byB)|(go_at_call 92;refine (H3.out _).mono ?_;rintro e w4 ⟨T4,G4,rfl,hO4,hG4,hb4⟩;have s4:=hb4.size;(try simp at s4);have hby4:w4.heap[w.heap.size+1]?=some (.cells #[.slice none 0 0,.slice none 0 0,.int .i64 0,.slice none 0 0,.slice none 0 0,.slice none 0 0,.slice none 0 0] 45):=(hb4.block _ (by first|exact zy3|simpa using zy3)).trans hby3;obtain ⟨cy4,fy4,zy4⟩:=blk hby4;have hbw4:Below w.heap.size w w4:=byB))
   obtain ⟨cr,fr,zr⟩:=blk (dom_set (u0:= .slice T4.a0 (freshOf c).jobs.length T4.n0) (u1:= .slice T4.a1 (freshOf c).released.length T4.n1) (u2:= .int .i64 (freshOf c).next) (u3:= .slice T4.a2 (freshOf c).ins.length T4.n2) (u4:= .slice T4.a3 (freshOf c).taken.length T4.n3) (u5:= .slice T4.a4 (freshOf c).outs.length T4.n4) (u6:= .slice T4.a5 (freshOf c).events.length T4.n5) hby4)
   refine bodyPost_ret (v:= .tuple #[.agg #[.slice T4.a0 (freshOf c).jobs.length T4.n0,.slice T4.a1 (freshOf c).released.length T4.n1,.int .i64 (freshOf c).next,.slice T4.a2 (freshOf c).ins.length T4.n2,.slice T4.a3 (freshOf c).taken.length T4.n3,.slice T4.a4 (freshOf c).outs.length T4.n4,.slice T4.a5 (freshOf c).events.length T4.n5],.int .i64 0]) (by simp [results,Try.results50,go_sem, *]) rfl ?_
   rw [show newErr c dom=0 from by simp [newErr,e1,e2]]
   rw [show newOf c dom=freshOf c from by unfold newOf;exact if_pos (by simp [newErr,e1,e2])]
   exact ⟨T4,G4,rfl,hO4.keep (fun i b hb=>dom_far (by have:=hG4 i b hb;omega)) (by simp),fun i b hb=>by have:=hG4 i b hb;omega,dom_below hbw4 (by omega)⟩
 ·go_enter Try.func50,Try.ntmps50
  go_wp2_with (go_at_call 45;refine (H1.out _ byB).mono ?_;rintro e w2 ⟨rfl,hb2⟩;have s2:=hb2.size;(try simp at s2);have hbx:w2.heap[w.heap.size]?=some (.cells #[.int .i64 c.sets,.int .i64 c.ways,.int .i64 c.doms,.int .i64 c.pad,.int .i64 c.quantum,.slice S.a0 c.slots.length S.n0,.slice S.a1 c.owners.length S.n1,.slice S.a2 c.chans.length S.n2,.slice S.a3 c.tasks.length S.n3] 27):=(hb2.block _ (by simp;omega)).trans (by exact byH);have hby:w2.heap[w.heap.size+1]?=some (.cells #[.slice none 0 0,.slice none 0 0,.int .i64 0,.slice none 0 0,.slice none 0 0,.slice none 0 0,.slice none 0 0] 45):=(hb2.block _ (by simp)).trans (by exact byH);obtain ⟨cx,fx,zx⟩:=blk hbx;obtain ⟨cy,fy,zy⟩:=blk hby;have hbw2:Below w.heap.size w w2:=byB)
  obtain ⟨cr,fr,zr⟩:=blk (dom_set (u0:= .slice none 0 0) (u1:= .slice none 0 0) (u2:= .int .i64 0) (u3:= .slice none 0 0) (u4:= .slice none 0 0) (u5:= .slice none 0 0) (u6:= .slice none 0 0) hby)
  refine bodyPost_ret (v:= .tuple #[.agg #[.slice none 0 0,.slice none 0 0,.int .i64 0,.slice none 0 0,.slice none 0 0,.slice none 0 0,.slice none 0 0],.int .i64 (checkConfig c)]) (by simp [results,Try.results50,go_sem, *]) rfl ?_
  rw [show newErr c dom=(checkConfig c) from by simp [newErr,e1]]
  rw [show newOf c dom=noDom from by unfold newOf;rw [show newErr c dom=(checkConfig c) from by simp [newErr,e1]];exact if_neg (by first|decide|assumption)]
  exact ⟨noDomS,fun _ _=>False,rfl,noDom_own _,fun _ _ h=>h.elim,dom_below hbw2 (by omega)⟩
end
end Go.Proofs.Ytinlmkhlgclbfab
