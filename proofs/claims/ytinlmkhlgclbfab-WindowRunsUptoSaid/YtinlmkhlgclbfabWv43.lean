/- CheckD -/
import Derived.Test.YtinlmkhlgclbfabWv29
import Derived.Test.YtinlmkhlgclbfabWv42
import Derived.StillTailTactics
namespace Go.Proofs.Ytinlmkhlgclbfab
open Go.RowKit
set_option maxRecDepth 100000
set_option maxHeartbeats 8000000
theorem refCheckDomain (c:TCfg)(S:TCfgS)(dom:Int)(d:TDom)(T:TDomS)(hc:CfgOk c)(B:Nat)(w:World)(hB:B≤w.heap.size)(hs:TCfg.At (Low B) w c S)(hd:TDom.At (Low B) w d T):
    Calls Try.prog 17 #[.agg #[.int .i64 c.sets,.int .i64 c.ways,.int .i64 c.doms,.int .i64 c.pad,.int .i64 c.quantum,.slice S.a0 c.slots.length S.n0,.slice S.a1 c.owners.length S.n1,.slice S.a2 c.chans.length S.n2,.slice S.a3 c.tasks.length S.n3],.int .i64 dom,.agg #[.slice T.a0 d.jobs.length T.n0,.slice T.a1 d.released.length T.n1,.int .i64 d.next,.slice T.a2 d.ins.length T.n2,.slice T.a3 d.taken.length T.n3,.slice T.a4 d.outs.length T.n4,.slice T.a5 d.events.length T.n5]] w fun e w'=>e= .returned (.int .i64 (domErr c dom d))∧Below w.heap.size w w':=by
  obtain ⟨m0,m1,m2,m3⟩:=cfg_len hs
  obtain ⟨p0,p1,p2,p3,p4,p5⟩:=dom_len hd
  have h6:=hc.ntasks
  have H1:=zH (fun W=>refIsDomain c S dom hc.doms.1 hc.doms.2 W)
  have HB1:=zH (fun i (h:i < c.tasks.length)=>(⟨(hc.task i h).2.1,(hc.task i h).2.2.1⟩:_∧_))
  cases g1:isDom c.doms dom
  · have R:=zH (show domErr c dom d=5 by unfold domErr;rw [g1];rfl)
    rw [g1] at H1
    clear hs hd hc g1
    go_enter Try.func17,Try.ntmps17
    go_wp2_with (go_at_call 40;refine (H1.out _).mono ?_;rintro e w1 ⟨rfl,hb1⟩)
    go_ret
    exact ⟨ret_int R.out.symm,byB⟩
  have R0:=zH (show domErr c dom d=thenE (formErr c d) (thenE (firstE d.jobs.length fun i=>jobErr c dom (nth d.jobs i)) (thenE (insErr c d) (firstE d.outs.length fun i=>outErr (nth d.outs i)))) by unfold domErr;rw [g1];rfl)
  rw [g1] at H1
  have RL:=zH (fun h=>show domErr c dom d=1 by rw [R0.out,show formErr c d=1 from by unfold formErr;exact if_pos h];rfl)
  have R3:=zH (fun (h:¬ (d.released.length≠c.tasks.length∨d.ins.length≠c.chans.length∨d.outs.length≠c.chans.length∨d.taken.length≠c.owners.length)) (h2:(anyI d.released.length (fun i=>!inB 0 (nth d.released i) 100000)|| !inB 0 d.next 100000||anyI d.taken.length (fun i=>!inB 0 (nth d.taken i) 15))=true)=>show domErr c dom d=3 by rw [R0.out,show formErr c d=3 from by unfold formErr;rw [if_neg h,if_pos h2]];rfl)
  have R2:=zH (fun (h:¬ (d.released.length≠c.tasks.length∨d.ins.length≠c.chans.length∨d.outs.length≠c.chans.length∨d.taken.length≠c.owners.length)) (h2:(anyI d.released.length (fun i=>!inB 0 (nth d.released i) 100000)|| !inB 0 d.next 100000||anyI d.taken.length (fun i=>!inB 0 (nth d.taken i) 15))=false) (h3:20 < d.jobs.length)=>show domErr c dom d=2 by rw [R0.out,show formErr c d=2 from by unfold formErr;rw [if_neg h,if_neg (by rw [h2];simp),if_pos h3]];rfl)
  have R1:=zH (fun (h:¬ (d.released.length≠c.tasks.length∨d.ins.length≠c.chans.length∨d.outs.length≠c.chans.length∨d.taken.length≠c.owners.length)) (h2:(anyI d.released.length (fun i=>!inB 0 (nth d.released i) 100000)|| !inB 0 d.next 100000||anyI d.taken.length (fun i=>!inB 0 (nth d.taken i) 15))=false) (h3:¬ 20 < d.jobs.length)=>show domErr c dom d=thenE (firstE d.jobs.length fun i=>jobErr c dom (nth d.jobs i)) (thenE (insErr c d) (firstE d.outs.length fun i=>outErr (nth d.outs i))) by rw [R0.out,show formErr c d=0 from by unfold formErr;rw [if_neg h,if_neg (by rw [h2];simp),if_neg h3]];rfl)
  have Q1:=zH (fun i hi (hq:∀j,j < i→jobErr c dom (nth d.jobs j)=0) (h:jobErr c dom (nth d.jobs i)≠0)=>show thenE (firstE d.jobs.length fun i=>jobErr c dom (nth d.jobs i)) (thenE (insErr c d) (firstE d.outs.length fun i=>outErr (nth d.outs i)))=jobErr c dom (nth d.jobs i) by
    have e:firstE d.jobs.length (fun i=>jobErr c dom (nth d.jobs i))=jobErr c dom (nth d.jobs i):=firstE_hit hi hq h
    unfold thenE;rw [if_neg (by rw [e];exact h),e])
  have Q2:=zH (fun (hq:∀j,j < d.jobs.length→jobErr c dom (nth d.jobs j)=0)=>show thenE (firstE d.jobs.length fun i=>jobErr c dom (nth d.jobs i)) (thenE (insErr c d) (firstE d.outs.length fun i=>outErr (nth d.outs i)))=thenE (insErr c d) (firstE d.outs.length fun i=>outErr (nth d.outs i)) by
    rw [show firstE d.jobs.length (fun i=>jobErr c dom (nth d.jobs i))=0 from firstE_none hq];rfl)
  have Q3:=zH (fun i hi (hq:∀j,j < i→checkRing (nth d.ins j).vals (nth d.ins j).lost (nth c.chans j).size=0) (h:checkRing (nth d.ins i).vals (nth d.ins i).lost (nth c.chans i).size≠0)=>show thenE (insErr c d) (firstE d.outs.length fun i=>outErr (nth d.outs i))=checkRing (nth d.ins i).vals (nth d.ins i).lost (nth c.chans i).size by
    have e:insErr c d=checkRing (nth d.ins i).vals (nth d.ins i).lost (nth c.chans i).size:=firstE_hit hi hq h
    unfold thenE;rw [if_neg (by rw [e];exact h),e])
  have Q4:=zH (fun (hq:∀j,j < d.ins.length→checkRing (nth d.ins j).vals (nth d.ins j).lost (nth c.chans j).size=0)=>show thenE (insErr c d) (firstE d.outs.length fun i=>outErr (nth d.outs i))=firstE d.outs.length fun i=>outErr (nth d.outs i) by
    rw [show insErr c d=0 from firstE_none hq];rfl)
  have Q5:=zH (fun i hi (hq:∀j,j < i→outErr (nth d.outs j)=0) (h:outErr (nth d.outs i)≠0)=>show firstE d.outs.length (fun i=>outErr (nth d.outs i))=outErr (nth d.outs i) from firstE_hit hi hq h)
  have Q6:=zH (fun (hq:∀j,j < d.outs.length→outErr (nth d.outs j)=0)=>show firstE d.outs.length (fun i=>outErr (nth d.outs i))=0 from firstE_none hq)
  obtain ⟨a0,n0,a1,n1,a2,n2,a3,n3⟩:=S
  obtain ⟨hs0,hs1,hs2,hs3⟩:=hs
  obtain ⟨e0,k0,e1,k1,e2,k2,e3,k3,e4,k4,e5,k5⟩:=T
  obtain ⟨hd0,hd1,hd2,hd3,hd4,hd5⟩:=hd
  dsimp only at hs0 hs1 hs2 hs3 hd0 hd1 hd2 hd3 hd4 hd5 H1⊢
  clear hc g1 R0
  by_cases hl:(d.released.length≠c.tasks.length∨d.ins.length≠c.chans.length∨d.outs.length≠c.chans.length∨d.taken.length≠c.owners.length)
  · replace RL:=zH (RL.out hl)
    go_enter Try.func17,Try.ntmps17
    go_wp2_with fail
    (go_at_call 40;refine (H1.out _).mono ?_;rintro e w1 ⟨rfl,hb_w1⟩;refine kbb (show w1.heap[w.heap.size]?=some (.cells #[.int .i64 c.sets,.int .i64 c.ways,.int .i64 c.doms,.int .i64 c.pad,.int .i64 c.quantum,.slice a0 c.slots.length n0,.slice a1 c.owners.length n1,.slice a2 c.chans.length n2,.slice a3 c.tasks.length n3] 27) from (hb_w1.block _ byS).trans byH) (fun c_w1 cc_w1 fc_w1 zc_w1=>?_);refine kbb (show w1.heap[w.heap.size+1]?=some (.cells #[.slice e0 d.jobs.length k0,.slice e1 d.released.length k1,.int .i64 d.next,.slice e2 d.ins.length k2,.slice e3 d.taken.length k3,.slice e4 d.outs.length k4,.slice e5 d.events.length k5] 45) from (hb_w1.block _ byS).trans byH) (fun d_w1 cd_w1 fd_w1 zd_w1=>?_);refine armT w hb_w1 (fun h_w1 s_w1 t_w1 hb_w1=>?_);(try simp at t_w1))
    go_wp2_with fail
    all_goals first
      | (exfalso
         have z:((d.taken.length:Int) !=c.owners.length)=false:=by assumption
         simp only [bne_eq_false_iff_eq] at z
         omega)
      | (go_ret
         exact ⟨ret_int RL.out.symm,byB⟩)
  have b1:((d.released.length:Int) !=c.tasks.length)=false:=by simp only [bne_eq_false_iff_eq];omega
  have b2:((d.ins.length:Int) !=c.chans.length)=false:=by simp only [bne_eq_false_iff_eq];omega
  have b3:((d.outs.length:Int) !=c.chans.length)=false:=by simp only [bne_eq_false_iff_eq];omega
  have b4:((d.taken.length:Int) !=c.owners.length)=false:=by simp only [bne_eq_false_iff_eq];omega
  have l2:=zH (show d.ins.length=c.chans.length by omega)
  replace RL:=zH hl
  clear hl
  go_enter Try.func17,Try.ntmps17
  go_wp2_with fail
  (go_at_call 40;refine (H1.out _).mono ?_;rintro e w1 ⟨rfl,hb_w1⟩;refine kbb (show w1.heap[w.heap.size]?=some (.cells #[.int .i64 c.sets,.int .i64 c.ways,.int .i64 c.doms,.int .i64 c.pad,.int .i64 c.quantum,.slice a0 c.slots.length n0,.slice a1 c.owners.length n1,.slice a2 c.chans.length n2,.slice a3 c.tasks.length n3] 27) from (hb_w1.block _ byS).trans byH) (fun c_w1 cc_w1 fc_w1 zc_w1=>?_);refine kbb (show w1.heap[w.heap.size+1]?=some (.cells #[.slice e0 d.jobs.length k0,.slice e1 d.released.length k1,.int .i64 d.next,.slice e2 d.ins.length k2,.slice e3 d.taken.length k3,.slice e4 d.outs.length k4,.slice e5 d.events.length k5] 45) from (hb_w1.block _ byS).trans byH) (fun d_w1 cd_w1 fd_w1 zd_w1=>?_);refine armT w hb_w1 (fun h_w1 s_w1 t_w1 hb_w1=>?_);(try simp at t_w1))
  go_wp2_with fail
  go_loopw [7] (fun iv wr=>∃i:Nat,i≤d.released.length∧iv= .int .i64 i∧Hid (∀j,j < i→inB 0 (nth d.released j) 100000=true)∧wr.heap[w.heap.size]?=some (.cells #[.int .i64 c.sets,.int .i64 c.ways,.int .i64 c.doms,.int .i64 c.pad,.int .i64 c.quantum,.slice a0 c.slots.length n0,.slice a1 c.owners.length n1,.slice a2 c.chans.length n2,.slice a3 c.tasks.length n3] 27)∧wr.heap[w.heap.size+1]?=some (.cells #[.slice e0 d.jobs.length k0,.slice e1 d.released.length k1,.int .i64 d.next,.slice e2 d.ins.length k2,.slice e3 d.taken.length k3,.slice e4 d.outs.length k4,.slice e5 d.events.length k5] 45)∧Below w.heap.size w wr) (fun iv _=>d.released.length - (intOf iv).toNat)
  case atStart=>exact ⟨0,Nat.zero_le _,rfl,(fun j hj=>by omega),c_w1,d_w1,h_w1⟩
  case round=>
    clear hb_w1 c_w1 d_w1 h_w1 cc_w1 fc_w1 zc_w1 cd_w1 fd_w1 zd_w1
    obtain ⟨i,hi,rfl,hq,hp,hpd,hbr⟩:=hrel
    obtain ⟨cp,fp,zp⟩:=blk hp
    obtain ⟨cpd,fpd,zpd⟩:=blk hpd
    have so:=hbr.size
    by_cases hlt:i < d.released.length
    · obtain ⟨b,o,rfl,hI,hc0⟩:=(hd1.next hB hbr).at_int hlt
      have hbl:b < w.heap.size:=Nat.lt_of_lt_of_le hI hB
      have hbr':b < wr.heap.size:=by omega
      have hi0:(0:Int)≤i:=by omega
      have hi1:(i:Int) < d.released.length:=by omega
      have HV:=fun W=>refBetween (nth d.released i) 0 100000 W
      cases g1:inB 0 (nth d.released i) 100000
      · have R:=zH (R3.out RL.out (by rw [Bool.or_eq_true,Bool.or_eq_true];exact .inl (.inl (anyI_true.2 ⟨i,hlt,by rw [g1];rfl⟩))))
        rw [g1] at HV
        replace HV:=zH HV
        clear g1
        go_wp2_with (go_at_call 48;refine (HV.out _).mono ?_;rintro e w' ⟨rfl,rfl⟩)
        go_ret
        exact ⟨ret_int R.out.symm,byB⟩
      · have R:=zH g1
        rw [g1] at HV
        replace HV:=zH HV
        clear g1
        go_wp2_with (go_at_call 48;refine (HV.out _).mono ?_;rintro e w' ⟨rfl,rfl⟩)
        go_roundw
        case rel=>exact ⟨i+1,by omega,by go_num,zH (fun j hj=>by
          by_cases e:j=i
          · subst e;exact R.out
          · exact hq.out j (by omega)),byH,byH,byB⟩
        case measure=>simp [intOf];omega
    · obtain rfl:i=d.released.length:=by omega
      have Z1:=zH (show anyI d.released.length (fun i=>!inB 0 (nth d.released i) 100000)=false from anyI_false.2 fun j hj=>by rw [hq.out j hj];rfl)
      clear hq
      go_wp2_with fail
      go_loopw [8] (fun iv wr=>∃i:Nat,i≤d.taken.length∧iv= .int .i64 i∧Hid (∀j,j < i→inB 0 (nth d.taken j) 15=true)∧wr.heap[w.heap.size]?=some (.cells #[.int .i64 c.sets,.int .i64 c.ways,.int .i64 c.doms,.int .i64 c.pad,.int .i64 c.quantum,.slice a0 c.slots.length n0,.slice a1 c.owners.length n1,.slice a2 c.chans.length n2,.slice a3 c.tasks.length n3] 27)∧wr.heap[w.heap.size+1]?=some (.cells #[.slice e0 d.jobs.length k0,.slice e1 d.released.length k1,.int .i64 d.next,.slice e2 d.ins.length k2,.slice e3 d.taken.length k3,.slice e4 d.outs.length k4,.slice e5 d.events.length k5] 45)∧Below w.heap.size w wr) (fun iv _=>d.taken.length - (intOf iv).toNat)
      case atStart=>exact ⟨0,Nat.zero_le _,rfl,(fun j hj=>by omega),hp,hpd,hbr⟩
      case round=>
        clear hp hpd hbr cp fp zp cpd fpd zpd so
        obtain ⟨i,hi,rfl,hq,hp,hpd,hbr⟩:=hrel
        obtain ⟨cp,fp,zp⟩:=blk hp
        obtain ⟨cpd,fpd,zpd⟩:=blk hpd
        have so:=hbr.size
        by_cases hlt:i < d.taken.length
        · obtain ⟨b,o,rfl,hI,hc0⟩:=(hd3.next hB hbr).at_int hlt
          have hbl:b < w.heap.size:=Nat.lt_of_lt_of_le hI hB
          have hbr':b < wr.heap.size:=by omega
          have hi0:(0:Int)≤i:=by omega
          have hi1:(i:Int) < d.taken.length:=by omega
          have HV:=fun W=>refBetween (nth d.taken i) 0 15 W
          cases g1:inB 0 (nth d.taken i) 15
          · have R:=zH (R3.out RL.out (by rw [Bool.or_eq_true,Bool.or_eq_true];exact .inr (anyI_true.2 ⟨i,hlt,by rw [g1];rfl⟩)))
            rw [g1] at HV
            replace HV:=zH HV
            clear g1
            go_wp2_with (go_at_call 48;refine (HV.out _).mono ?_;rintro e w' ⟨rfl,rfl⟩)
            go_ret
            exact ⟨ret_int R.out.symm,byB⟩
          · have R:=zH g1
            rw [g1] at HV
            replace HV:=zH HV
            clear g1
            go_wp2_with (go_at_call 48;refine (HV.out _).mono ?_;rintro e w' ⟨rfl,rfl⟩)
            go_roundw
            case rel=>exact ⟨i+1,by omega,by go_num,zH (fun j hj=>by
              by_cases e:j=i
              · subst e;exact R.out
              · exact hq.out j (by omega)),byH,byH,byB⟩
            case measure=>simp [intOf];omega
        · obtain rfl:i=d.taken.length:=by omega
          have Z2:=zH (show anyI d.taken.length (fun i=>!inB 0 (nth d.taken i) 15)=false from anyI_false.2 fun j hj=>by rw [hq.out j hj];rfl)
          clear hq
          have HV:=fun W=>refBetween d.next 0 100000 W
          cases g1:inB 0 d.next 100000
          · have R:=zH (R3.out RL.out (by rw [Bool.or_eq_true,Bool.or_eq_true];exact .inl (.inr (by rw [g1];rfl))))
            rw [g1] at HV
            replace HV:=zH HV
            clear g1
            go_wp2_with (go_at_call 48;refine (HV.out _).mono ?_;rintro e w' ⟨rfl,rfl⟩)
            go_ret
            exact ⟨ret_int R.out.symm,byB⟩
          have Z3:=zH (show (anyI d.released.length (fun i=>!inB 0 (nth d.released i) 100000)|| !inB 0 d.next 100000||anyI d.taken.length (fun i=>!inB 0 (nth d.taken i) 15))=false by rw [Z1.out,Z2.out,g1];rfl)
          rw [g1] at HV
          replace HV:=zH HV
          clear g1 Z1 Z2 R3
          by_cases h20:20 < d.jobs.length
          · have R:=zH (R2.out RL.out Z3.out h20)
            go_wp2_with (go_at_call 48;refine (HV.out _).mono ?_;rintro e w' ⟨rfl,rfl⟩)
            go_ret
            exact ⟨ret_int R.out.symm,byB⟩
          have RA:=zH (R1.out RL.out Z3.out h20)
          clear R1 R2 Z3
          go_wp2_with (go_at_call 48;refine (HV.out _).mono ?_;rintro e w' ⟨rfl,rfl⟩)
          clear HV
          go_loopw [9] (fun iv wr=>∃i:Nat,i≤d.jobs.length∧iv= .int .i64 i∧Hid (∀j,j < i→jobErr c dom (nth d.jobs j)=0)∧wr.heap[w.heap.size]?=some (.cells #[.int .i64 c.sets,.int .i64 c.ways,.int .i64 c.doms,.int .i64 c.pad,.int .i64 c.quantum,.slice a0 c.slots.length n0,.slice a1 c.owners.length n1,.slice a2 c.chans.length n2,.slice a3 c.tasks.length n3] 27)∧wr.heap[w.heap.size+1]?=some (.cells #[.slice e0 d.jobs.length k0,.slice e1 d.released.length k1,.int .i64 d.next,.slice e2 d.ins.length k2,.slice e3 d.taken.length k3,.slice e4 d.outs.length k4,.slice e5 d.events.length k5] 45)∧Below w.heap.size w wr) (fun iv _=>d.jobs.length - (intOf iv).toNat)
          case atStart=>exact ⟨0,Nat.zero_le _,rfl,(fun j hj=>by omega),hp,hpd,hbr⟩
          case round=>
            clear hp hpd hbr cp fp zp cpd fpd zpd so
            obtain ⟨i,hi,rfl,hq,hp,hpd,hbr⟩:=hrel
            obtain ⟨cp,fp,zp⟩:=blk hp
            obtain ⟨cpd,fpd,zpd⟩:=blk hpd
            have so:=hbr.size
            by_cases hlt:i < d.jobs.length
            · obtain ⟨b,o,rfl,hI,hc0,hc1,hc2,hc3,hc4,hc5⟩:=(hd0.next hB hbr).at_job hlt
              have hbl:b < w.heap.size:=Nat.lt_of_lt_of_le hI hB
              have hbr':b < wr.heap.size:=by omega
              have hi0:(0:Int)≤i:=by omega
              have hi1:(i:Int) < d.jobs.length:=by omega
              have hw:IntKind.i64.wrap ((c.tasks.length:Int) - 1)=(c.tasks.length:Int) - 1:=IntWalk.i64_in _ (by omega)
              have RJ:=zH (fun h=>RA.out.trans (Q1.out i hlt hq.out h))
              have RK:=zH (show jobErr c dom (nth d.jobs i)=jobErr c dom (nth d.jobs i) from rfl)
              generalize hJ:nth d.jobs i=J at*
              replace hJ:=zH hJ
              obtain ⟨task,number,released,used,ran,missed⟩:=J
              dsimp only at hc0 hc1 hc2 hc3 hc4 hc5
              have HW:=fun W=>refBetween task 0 ((c.tasks.length:Int) - 1) W
              cases b1:inB 0 task ((c.tasks.length:Int) - 1)
              · have R0:=show jobErr c dom ⟨task,number,released,used,ran,missed⟩=5 by unfold jobErr;rw [if_pos (by simp [b1])]
                have R:=zH ((RJ.out (by rw [R0];decide)).trans R0)
                rw [b1] at HW
                replace HW:=zH HW
                clear b1 R0
                go_wp2_with (go_at_call 48;refine (HW.out _).mono ?_;rintro e w' ⟨rfl,rfl⟩)
                go_ret
                exact ⟨ret_int R.out.symm,byB⟩
              obtain ⟨q0,q1⟩:=inB_true.1 b1
              obtain ⟨m,rfl⟩:=Int.eq_ofNat_of_zero_le q0
              have hm:m < c.tasks.length:=by omega
              have R0:=zH (show jobErr c dom ⟨m,number,released,used,ran,missed⟩=if (nth c.tasks m).dom≠dom then 5
                else if !inB 0 number 100000|| !inB 0 released 100000|| !inB 0 used ((nth c.tasks m).budget - 1) then 3 else 0 by unfold jobErr;rw [if_neg (by simp [b1])];rfl)
              rw [b1] at HW
              replace HW:=zH HW
              clear b1
              obtain ⟨hper,hbud⟩:=HB1.out m hm
              obtain ⟨bt,ot,rfl,hIt,ht0,ht1,ht2,ht3⟩:=(hs3.next hB hbr).at_task hm
              have htl:bt < w.heap.size:=Nat.lt_of_lt_of_le hIt hB
              have htr:bt < wr.heap.size:=by omega
              have hwb:IntKind.i64.wrap ((nth c.tasks m).budget - 1)=(nth c.tasks m).budget - 1:=IntWalk.i64_in _ (by omega)
              have hm0:(0:Int)≤m:=by omega
              have hm1:(m:Int) < c.tasks.length:=by omega
              generalize nth c.tasks m=tm at*
              cases b2:(tm.dom !=dom)
              case true=>
                have R1:=R0.out
                rw [if_pos (by simpa using b2)] at R1
                have R:=zH ((RJ.out (by rw [R1];decide)).trans R1)
                clear R1
                go_wp2_with (go_at_call 48;refine (HW.out _).mono ?_;rintro e w' ⟨rfl,rfl⟩)
                go_ret
                exact ⟨ret_int R.out.symm,byB⟩
              have R1:=R0.out
              rw [if_neg (by simpa using b2)] at R1
              replace R1:=zH R1
              clear R0 RK
              cases b3:inB 0 number 100000
              · have R2:=R1.out
                rw [show (!inB 0 number 100000|| !inB 0 released 100000|| !inB 0 used (tm.budget - 1))=true by rw [b3];simp] at R2
                have R:=zH ((RJ.out (by rw [R2];decide)).trans R2)
                clear R2
                have W3:=zH (fun W=>(refBetween number 0 100000 W).mono fun e w' h=>(⟨by rw [h.1,b3],h.2.symm⟩:e= .returned (.bool _)∧w'=W))
                clear b3
                go_wp2_with (go_at_call 48;refine (HW.out _).mono ?_;rintro e w' ⟨rfl,rfl⟩)
                go_quiet (first|(go_at_call 48;with_reducible refine Calls.quiet_of_same (W3.out _)))
                all_goals
                  go_wp2_with fail
                  go_ret
                  exact ⟨ret_int R.out.symm,byB⟩
              cases b4:inB 0 released 100000
              · have R2:=R1.out
                rw [show (!inB 0 number 100000|| !inB 0 released 100000|| !inB 0 used (tm.budget - 1))=true by rw [b3,b4];simp] at R2
                have R:=zH ((RJ.out (by rw [R2];decide)).trans R2)
                clear R2
                have W3:=zH (fun W=>(refBetween number 0 100000 W).mono fun e w' h=>(⟨by rw [h.1,b3],h.2.symm⟩:e= .returned (.bool _)∧w'=W))
                have W4:=zH (fun W=>(refBetween released 0 100000 W).mono fun e w' h=>(⟨by rw [h.1,b4],h.2.symm⟩:e= .returned (.bool _)∧w'=W))
                clear b3 b4
                go_wp2_with (go_at_call 48;refine (HW.out _).mono ?_;rintro e w' ⟨rfl,rfl⟩)
                go_quiet (first|(go_at_call 48;with_reducible refine Calls.quiet_of_same (W3.out _))|(go_at_call 48;with_reducible refine Calls.quiet_of_same (W4.out _)))
                all_goals
                  go_wp2_with fail
                  go_ret
                  exact ⟨ret_int R.out.symm,byB⟩
              cases b5:inB 0 used (tm.budget - 1)
              · have R2:=R1.out
                rw [show (!inB 0 number 100000|| !inB 0 released 100000|| !inB 0 used (tm.budget - 1))=true by rw [b3,b4,b5];simp] at R2
                have R:=zH ((RJ.out (by rw [R2];decide)).trans R2)
                clear R2
                have W3:=zH (fun W=>(refBetween number 0 100000 W).mono fun e w' h=>(⟨by rw [h.1,b3],h.2.symm⟩:e= .returned (.bool _)∧w'=W))
                have W4:=zH (fun W=>(refBetween released 0 100000 W).mono fun e w' h=>(⟨by rw [h.1,b4],h.2.symm⟩:e= .returned (.bool _)∧w'=W))
                have W5:=zH (fun W=>(refBetween used 0 (tm.budget - 1) W).mono fun e w' h=>(⟨by rw [h.1,b5],h.2.symm⟩:e= .returned (.bool _)∧w'=W))
                clear b3 b4 b5
                go_wp2_with (go_at_call 48;refine (HW.out _).mono ?_;rintro e w' ⟨rfl,rfl⟩)
                go_quiet (first|(go_at_call 48;with_reducible refine Calls.quiet_of_same (W3.out _))|(go_at_call 48;with_reducible refine Calls.quiet_of_same (W4.out _))|(go_at_call 48;with_reducible refine Calls.quiet_of_same (W5.out _)))
                all_goals
                  go_wp2_with fail
                  go_ret
                  exact ⟨ret_int R.out.symm,byB⟩
              have R:=zH (show jobErr c dom ⟨m,number,released,used,ran,missed⟩=0 by rw [R1.out,b3,b4,b5];rfl)
              have W3:=zH (fun W=>(refBetween number 0 100000 W).mono fun e w' h=>(⟨by rw [h.1,b3],h.2.symm⟩:e= .returned (.bool _)∧w'=W))
              have W4:=zH (fun W=>(refBetween released 0 100000 W).mono fun e w' h=>(⟨by rw [h.1,b4],h.2.symm⟩:e= .returned (.bool _)∧w'=W))
              have W5:=zH (fun W=>(refBetween used 0 (tm.budget - 1) W).mono fun e w' h=>(⟨by rw [h.1,b5],h.2.symm⟩:e= .returned (.bool _)∧w'=W))
              clear b3 b4 b5
              go_wp2_with (go_at_call 48;refine (HW.out _).mono ?_;rintro e w' ⟨rfl,rfl⟩)
              go_quiet (first|(go_at_call 48;with_reducible refine Calls.quiet_of_same (W3.out _))|(go_at_call 48;with_reducible refine Calls.quiet_of_same (W4.out _))|(go_at_call 48;with_reducible refine Calls.quiet_of_same (W5.out _)))
              all_goals
                go_wp2_with fail
                go_roundw
                case rel=>exact ⟨i+1,by omega,by go_num,zH (fun j hj=>by
                  by_cases e:j=i
                  · subst e;exact (by rw [hJ.out];exact R.out)
                  · exact hq.out j (by omega)),byH,byH,byB⟩
                case measure=>simp [intOf];omega
            · obtain rfl:i=d.jobs.length:=by omega
              have RB:=zH (RA.out.trans (Q2.out hq.out))
              clear hq Q1 Q2 RA HB1
              go_wp2_with fail
              go_loopw [11] (fun iv wr=>∃i:Nat,i≤d.ins.length∧iv= .int .i64 i∧Hid (∀j,j < i→checkRing (nth d.ins j).vals (nth d.ins j).lost (nth c.chans j).size=0)∧wr.heap[w.heap.size]?=some (.cells #[.int .i64 c.sets,.int .i64 c.ways,.int .i64 c.doms,.int .i64 c.pad,.int .i64 c.quantum,.slice a0 c.slots.length n0,.slice a1 c.owners.length n1,.slice a2 c.chans.length n2,.slice a3 c.tasks.length n3] 27)∧wr.heap[w.heap.size+1]?=some (.cells #[.slice e0 d.jobs.length k0,.slice e1 d.released.length k1,.int .i64 d.next,.slice e2 d.ins.length k2,.slice e3 d.taken.length k3,.slice e4 d.outs.length k4,.slice e5 d.events.length k5] 45)∧Below w.heap.size w wr) (fun iv _=>d.ins.length - (intOf iv).toNat)
              case atStart=>exact ⟨0,Nat.zero_le _,rfl,(fun j hj=>by omega),hp,hpd,hbr⟩
              case round=>
                clear hp hpd hbr cp fp zp cpd fpd zpd so
                obtain ⟨i,hi,rfl,hq,hp,hpd,hbr⟩:=hrel
                obtain ⟨cp,fp,zp⟩:=blk hp
                obtain ⟨cpd,fpd,zpd⟩:=blk hpd
                have so:=hbr.size
                by_cases hlt:i < d.ins.length
                · obtain ⟨b,o,A',c',rfl,hI,hc0,hc1,hin⟩:=(hd2.next hB hbr).at_ring hlt
                  obtain ⟨b2,o2,rfl,hI2,q0,q1,q2⟩:=(hs2.next hB hbr).at_chan (show i < c.chans.length by have:=l2.out;omega)
                  have hbl:b < w.heap.size:=Nat.lt_of_lt_of_le hI hB
                  have hbr':b < wr.heap.size:=by omega
                  have hbl2:b2 < w.heap.size:=Nat.lt_of_lt_of_le hI2 hB
                  have hbr2:b2 < wr.heap.size:=by omega
                  have hi0:(0:Int)≤i:=by omega
                  have hi1:(i:Int) < d.ins.length:=by omega
                  have hi2:(i:Int) < c.chans.length:=by have:=l2.out;omega
                  have HC1:=fun W (h:Below wr.heap.size wr W)=>refCheckRing (nth d.ins i).vals (nth d.ins i).lost (nth c.chans i).size A' c' B W (Nat.le_trans (Nat.le_trans hB so) h.size) (hin.next (Nat.le_trans hB so) h)
                  clear hin
                  cases g1:decide (checkRing (nth d.ins i).vals (nth d.ins i).lost (nth c.chans i).size=0)
                  · have g1:checkRing (nth d.ins i).vals (nth d.ins i).lost (nth c.chans i).size≠0:=by simpa using g1
                    have R:=zH (RB.out.trans (Q3.out i hlt hq.out g1))
                    have b1:(checkRing (nth d.ins i).vals (nth d.ins i).lost (nth c.chans i).size !=0)=true:=by simp [g1]
                    have HC1:=zH HC1
                    clear g1
                    generalize checkRing (nth d.ins i).vals (nth d.ins i).lost (nth c.chans i).size=JE at*
                    go_wp2_with fail
                    (refine wp_region_still_tail 11 (by kernel_rfl) (by kernel_rfl) ?_;simp only [List.take_succ_cons,List.take_zero,List.drop_succ_cons,List.drop_zero];(iterate 11 (with_reducible refine wpStill_step (fun K hK=>?_);replace hK:=zH hK;go_simp;with_reducible refine hK.out _ ?_;clear hK K));refine wpStill_nil ?_)
                    change wpList _ _ _ _ _ wr.drew
                    go_wp2_with fail
                    (go_at_call 55;refine (HC1.out _ byB).mono ?_;rintro e w1 ⟨rfl,hb_w1⟩;refine armT w hb_w1 (fun h_w1 s_w1 t_w1 hb_w1=>?_);(try simp at t_w1))
                    go_wp2_with fail
                    go_ret
                    exact ⟨ret_int R.out.symm,byB⟩
                  · have g1:checkRing (nth d.ins i).vals (nth d.ins i).lost (nth c.chans i).size=0:=by simpa using g1
                    rw [g1] at HC1
                    have HC1:=zH HC1
                    have R:=zH g1
                    clear g1
                    go_wp2_with fail
                    (refine wp_region_still_tail 11 (by kernel_rfl) (by kernel_rfl) ?_;simp only [List.take_succ_cons,List.take_zero,List.drop_succ_cons,List.drop_zero];(iterate 11 (with_reducible refine wpStill_step (fun K hK=>?_);replace hK:=zH hK;go_simp;with_reducible refine hK.out _ ?_;clear hK K));refine wpStill_nil ?_)
                    change wpList _ _ _ _ _ wr.drew
                    go_wp2_with fail
                    (go_at_call 55;refine (HC1.out _ byB).mono ?_;rintro e w1 ⟨rfl,hb_w1⟩;refine kbb (show w1.heap[w.heap.size]?=some (.cells #[.int .i64 c.sets,.int .i64 c.ways,.int .i64 c.doms,.int .i64 c.pad,.int .i64 c.quantum,.slice a0 c.slots.length n0,.slice a1 c.owners.length n1,.slice (some ⟨b2,o2,none⟩) c.chans.length n2,.slice a3 c.tasks.length n3] 27) from (hb_w1.block _ byS).trans byH) (fun c_w1 cc_w1 fc_w1 zc_w1=>?_);refine kbb (show w1.heap[w.heap.size+1]?=some (.cells #[.slice e0 d.jobs.length k0,.slice e1 d.released.length k1,.int .i64 d.next,.slice (some ⟨b,o,none⟩) d.ins.length k2,.slice e3 d.taken.length k3,.slice e4 d.outs.length k4,.slice e5 d.events.length k5] 45) from (hb_w1.block _ byS).trans byH) (fun d_w1 cd_w1 fd_w1 zd_w1=>?_);refine armT w hb_w1 (fun h_w1 s_w1 t_w1 hb_w1=>?_);(try simp at t_w1))
                    go_wp2_with fail
                    go_roundw
                    case rel=>exact ⟨i+1,by omega,by go_num,zH (fun j hj=>by
                      by_cases e:j=i
                      · subst e;exact R.out
                      · exact hq.out j (by omega)),byH,byH,byB⟩
                    case measure=>simp [intOf];omega
                · obtain rfl:i=d.ins.length:=by omega
                  have RC:=zH (RB.out.trans (Q4.out hq.out))
                  clear hq Q3 Q4 RB
                  go_wp2_with fail
                  go_loopw [13] (fun iv wr=>∃i:Nat,i≤d.outs.length∧iv= .int .i64 i∧Hid (∀j,j < i→outErr (nth d.outs j)=0)∧wr.heap[w.heap.size]?=some (.cells #[.int .i64 c.sets,.int .i64 c.ways,.int .i64 c.doms,.int .i64 c.pad,.int .i64 c.quantum,.slice a0 c.slots.length n0,.slice a1 c.owners.length n1,.slice a2 c.chans.length n2,.slice a3 c.tasks.length n3] 27)∧wr.heap[w.heap.size+1]?=some (.cells #[.slice e0 d.jobs.length k0,.slice e1 d.released.length k1,.int .i64 d.next,.slice e2 d.ins.length k2,.slice e3 d.taken.length k3,.slice e4 d.outs.length k4,.slice e5 d.events.length k5] 45)∧Below w.heap.size w wr) (fun iv _=>d.outs.length - (intOf iv).toNat)
                  case atStart=>exact ⟨0,Nat.zero_le _,rfl,(fun j hj=>by omega),hp,hpd,hbr⟩
                  case round=>
                    clear hp hpd hbr cp fp zp cpd fpd zpd so
                    obtain ⟨i,hi,rfl,hq,hp,hpd,hbr⟩:=hrel
                    obtain ⟨cp,fp,zp⟩:=blk hp
                    obtain ⟨cpd,fpd,zpd⟩:=blk hpd
                    have so:=hbr.size
                    by_cases hlt:i < d.outs.length
                    · obtain ⟨b,o,A',c',rfl,hI,hc0,hin⟩:=(hd4.next hB hbr).at_slice hlt
                      have hbl:b < w.heap.size:=Nat.lt_of_lt_of_le hI hB
                      have hbr':b < wr.heap.size:=by omega
                      have hi0:(0:Int)≤i:=by omega
                      have hi1:(i:Int) < d.outs.length:=by omega
                      have hml:=Nat.le_trans hin.cap hin.max
                      unfold maxLen at hml
                      have HV:=fun W (h:Below wr.heap.size wr W)=>refAreValues (nth d.outs i) A' c' B W (Nat.le_trans (Nat.le_trans hB so) h.size) (hin.next (Nat.le_trans hB so) h)
                      clear hin
                      by_cases g1:60 < (nth d.outs i).length
                      · have R0:=zH (show outErr (nth d.outs i)=2 by unfold outErr;rw [if_pos g1])
                        have R:=zH (RC.out.trans ((Q5.out i hlt hq.out (by rw [R0.out];decide)).trans R0.out))
                        clear HV
                        go_wp2_with fail
                        go_ret
                        exact ⟨ret_int R.out.symm,byB⟩
                      have R1:=zH (show outErr (nth d.outs i)=if !areValues (nth d.outs i) then 3 else 0 by unfold outErr;rw [if_neg g1])
                      cases g2:areValues (nth d.outs i)
                      · have R0:=zH (show outErr (nth d.outs i)=3 by rw [R1.out,g2];rfl)
                        have R:=zH (RC.out.trans ((Q5.out i hlt hq.out (by rw [R0.out];decide)).trans R0.out))
                        rw [g2] at HV
                        have HV:=zH HV
                        clear g2
                        go_wp2_with (go_at_call 56;refine (HV.out _ byB).mono ?_;rintro e w' ⟨rfl,rfl⟩)
                        go_ret
                        exact ⟨ret_int R.out.symm,byB⟩
                      · have R:=zH (show outErr (nth d.outs i)=0 by rw [R1.out,g2];rfl)
                        rw [g2] at HV
                        have HV:=zH HV
                        clear g2
                        go_wp2_with (go_at_call 56;refine (HV.out _ byB).mono ?_;rintro e w' ⟨rfl,rfl⟩)
                        go_roundw
                        case rel=>exact ⟨i+1,by omega,by go_num,zH (fun j hj=>by
                          by_cases e:j=i
                          · subst e;exact R.out
                          · exact hq.out j (by omega)),byH,byH,byB⟩
                        case measure=>simp [intOf];omega
                    · obtain rfl:i=d.outs.length:=by omega
                      have R:=zH (RC.out.trans (Q6.out hq.out))
                      go_wp2_with fail
                      go_ret
                      exact ⟨ret_int R.out.symm,hbr⟩
end Go.Proofs.Ytinlmkhlgclbfab
