/- CheckE to DomIs -/
import Derived.Test.YtinlmkhlgclbfabWv30
import Derived.Test.YtinlmkhlgclbfabWv43
import Derived.Laws.StructEq
namespace Go.Proofs.Ytinlmkhlgclbfab
open Go.RowKit
section
set_option maxRecDepth 100000
set_option maxHeartbeats 4000000
theorem refCheckBoth (c:TCfg)(S:TCfgS)(dom:Int)(d:TDom)(T:TDomS)(B:Nat)(w:World)(hB:B≤w.heap.size)(hs:TCfg.At (Low B) w c S)(hd:TDom.At (Low B) w d T):
  Calls Try.prog 33 #[.agg #[.int .i64 c.sets,.int .i64 c.ways,.int .i64 c.doms,.int .i64 c.pad,.int .i64 c.quantum,.slice S.a0 c.slots.length S.n0,.slice S.a1 c.owners.length S.n1,.slice S.a2 c.chans.length S.n2,.slice S.a3 c.tasks.length S.n3],.int .i64 dom,.agg #[.slice T.a0 d.jobs.length T.n0,.slice T.a1 d.released.length T.n1,.int .i64 d.next,.slice T.a2 d.ins.length T.n2,.slice T.a3 d.taken.length T.n3,.slice T.a4 d.outs.length T.n4,.slice T.a5 d.events.length T.n5]] w fun e w'=>e= .returned (.int .i64 (checkBoth c dom d))∧Below w.heap.size w w':=by
 have H1:=zH (fun W (h:Below w.heap.size w W)=>refCheckConfig c S B W (Nat.le_trans hB h.size) (hs.next hB h))
 cases e1:decide (checkConfig c=0)
 ·have e1:checkConfig c≠0:=by simpa using e1
  have R:=zH (show checkBoth c dom d=checkConfig c by unfold checkBoth thenE;rw [if_neg e1])
  have b1:(checkConfig c==0)=false:=by simp [e1]
  clear hs hd e1
  generalize checkConfig c=CE at*
  go_enter Try.func33,Try.ntmps33
  go_wp2_with (go_at_call 12;refine (H1.out _ byB).mono ?_;rintro e w1 ⟨rfl,hb1⟩)
  go_ret
  exact ⟨ret_int R.out.symm,byB⟩
 have e1:checkConfig c=0:=by simpa using e1
 have R:=zH (show checkBoth c dom d=domErr c dom d by unfold checkBoth;rw [e1];rfl)
 have hc:=checkConfig_ok e1
 have H2:=zH (fun W (h:Below w.heap.size w W)=>refCheckDomain c S dom d T hc B W (Nat.le_trans hB h.size) (hs.next hB h) (hd.next hB h))
 rw [e1] at H1
 clear hs hd hc e1
 go_enter Try.func33,Try.ntmps33
 go_wp2_with fail
 (go_at_call 12;refine (H1.out _ byB).mono ?_;rintro e w1 ⟨rfl,hb_w1⟩;refine kbb (show w1.heap[w.heap.size]?=some (.cells #[.int .i64 c.sets,.int .i64 c.ways,.int .i64 c.doms,.int .i64 c.pad,.int .i64 c.quantum,.slice S.a0 c.slots.length S.n0,.slice S.a1 c.owners.length S.n1,.slice S.a2 c.chans.length S.n2,.slice S.a3 c.tasks.length S.n3] 27) from (hb_w1.block _ byS).trans byH) (fun c_w1 cc_w1 fc_w1 zc_w1=>?_);refine kbb (show w1.heap[w.heap.size+1]?=some (.cells #[.slice T.a0 d.jobs.length T.n0,.slice T.a1 d.released.length T.n1,.int .i64 d.next,.slice T.a2 d.ins.length T.n2,.slice T.a3 d.taken.length T.n3,.slice T.a4 d.outs.length T.n4,.slice T.a5 d.events.length T.n5] 45) from (hb_w1.block _ byS).trans byH) (fun d_w1 cd_w1 fd_w1 zd_w1=>?_);refine armT w hb_w1 (fun h_w1 s_w1 t_w1 hb_w1=>?_);(try simp at t_w1))
 go_wp2_with fail
 (go_at_call 17;refine (H2.out _ byB).mono ?_;rintro e w2 ⟨rfl,hb_w2⟩;refine kbb (kb c_w1 hb_w2) (fun c_w2 cc_w2 fc_w2 zc_w2=>?_);refine kbb (kb d_w1 hb_w2) (fun d_w2 cd_w2 fd_w2 zd_w2=>?_);refine armT w hb_w2 (fun h_w2 s_w2 t_w2 hb_w2=>?_);(try simp at t_w2);clear c_w1 cc_w1 fc_w1 d_w1 cd_w1 fd_w1)
 go_wp2_with fail
 go_ret
 exact ⟨ret_int R.out.symm,byB⟩
end
section
set_option maxRecDepth 100000
set_option maxHeartbeats 400000
theorem neqJob (x y:TJob)(w:World):(binOp .neq 110 (.agg #[.int .i64 x.task,.int .i64 x.number,.int .i64 x.released,.int .i64 x.used,.bool x.ran,.bool x.missed]) (.agg #[.int .i64 y.task,.int .i64 y.number,.int .i64 y.released,.int .i64 y.used,.bool y.ran,.bool y.missed])).run Try.prog w= .ok (.bool (diffT x y)) w:=by
 have hf:=congrArg (fun u:Option TypeDesc=>match u with|some (.struct fs)=>fs|_=>#[]) Try.underlying110
 change Try.prog.fieldsOf 110=_ at hf
 simp only at hf
 rw [run_neq_struct,run_equalIn_agg _ _ _ _ _ (by rw [hf];exact Try.underlying110) (by kernel_rfl),hf]
 have u1:=Try.underlying3
 have u2:=Try.underlying4
 have hd:diffT x y= !(x.task==y.task&&x.number==y.number&&x.released==y.released&&x.used==y.used&&x.ran==y.ran&&x.missed==y.missed):=by
  unfold diffT
  congr 1
  rw [Bool.eq_iff_iff]
  cases x;cases y;simp [and_assoc]
 rw [hd]
 clear hd
 simp [Op.eqFields,go_sem, *]
 (repeat' split)<;>simp_all
theorem guardJob:Try.prog.eqGuardType Try.prog.depth 110=false:=by kernel_rfl
theorem neqEv (x y:TEv)(w:World):(binOp .neq 84 (.agg #[.int .i64 x.t,.int .i64 x.kind,.int .i64 x.a,.int .i64 x.b]) (.agg #[.int .i64 y.t,.int .i64 y.kind,.int .i64 y.a,.int .i64 y.b])).run Try.prog w= .ok (.bool (diffT x y)) w:=by
 have hf:=congrArg (fun u:Option TypeDesc=>match u with|some (.struct fs)=>fs|_=>#[]) Try.underlying84
 change Try.prog.fieldsOf 84=_ at hf
 simp only at hf
 rw [run_neq_struct,run_equalIn_agg _ _ _ _ _ (by rw [hf];exact Try.underlying84) (by kernel_rfl),hf]
 have u1:=Try.underlying3
 have u2:=Try.underlying4
 have hd:diffT x y= !(x.t==y.t&&x.kind==y.kind&&x.a==y.a&&x.b==y.b):=by
  unfold diffT
  congr 1
  rw [Bool.eq_iff_iff]
  cases x;cases y;simp [and_assoc]
 rw [hd]
 clear hd
 simp [Op.eqFields,go_sem, *]
 (repeat' split)<;>simp_all
theorem guardEv:Try.prog.eqGuardType Try.prog.depth 84=false:=by kernel_rfl
end
section
set_option maxRecDepth 100000
set_option maxHeartbeats 8000000
theorem refSameDomain (d:TDom)(S T:TDomS)(B:Nat)(w:World)(hB:B≤w.heap.size)(hs:TDom.At (Low B) w d S)(ht:TDom.At (Low B) w d T):
  Calls Try.prog 60 #[.agg #[.slice S.a0 d.jobs.length S.n0,.slice S.a1 d.released.length S.n1,.int .i64 d.next,.slice S.a2 d.ins.length S.n2,.slice S.a3 d.taken.length S.n3,.slice S.a4 d.outs.length S.n4,.slice S.a5 d.events.length S.n5],.agg #[.slice T.a0 d.jobs.length T.n0,.slice T.a1 d.released.length T.n1,.int .i64 d.next,.slice T.a2 d.ins.length T.n2,.slice T.a3 d.taken.length T.n3,.slice T.a4 d.outs.length T.n4,.slice T.a5 d.events.length T.n5]] w fun e w'=>e= .returned (.bool true)∧Below w.heap.size w w':=by
 obtain ⟨q0,q1,q2,q3,q4,q5⟩:=dom_len hs
 obtain ⟨e0,k0,e1,k1,e2,k2,e3,k3,e4,k4,e5,k5⟩:=S
 obtain ⟨hs0,hs1,hs2,hs3,hs4,hs5⟩:=hs
 obtain ⟨f0,l0,f1,l1,f2,l2,f3,l3,f4,l4,f5,l5⟩:=T
 obtain ⟨ht0,ht1,ht2,ht3,ht4,ht5⟩:=ht
 dsimp only at hs0 hs1 hs2 hs3 hs4 hs5 ht0 ht1 ht2 ht3 ht4 ht5⊢
 have HI1:=fun W (h:Below w.heap.size w W)=>(refSameInts d.released d.released e1 f1 k1 l1 B W (Nat.le_trans hB h.size) (hs1.next hB h) (ht1.next hB h))
 have HI3:=fun W (h:Below w.heap.size w W)=>(refSameInts d.taken d.taken e3 f3 k3 l3 B W (Nat.le_trans hB h.size) (hs3.next hB h) (ht3.next hB h))
 rw [show decide (d.released=d.released)=true by simp] at HI1
 rw [show decide (d.taken=d.taken)=true by simp] at HI3
 replace HI1:=zH HI1
 replace HI3:=zH HI3
 clear hs1 ht1 hs3 ht3
 go_enter Try.func60,Try.ntmps60
 go_wp2_with fail
 (go_at_call 103;refine (HI1.out _ byB).mono ?_;rintro e w1 ⟨rfl,hb_w1⟩;refine kbb (show w1.heap[w.heap.size]?=some (.cells #[.slice e0 d.jobs.length k0,.slice e1 d.released.length k1,.int .i64 d.next,.slice e2 d.ins.length k2,.slice e3 d.taken.length k3,.slice e4 d.outs.length k4,.slice e5 d.events.length k5] 45) from (hb_w1.block _ byS).trans byH) (fun p_w1 cp_w1 fp_w1 zp_w1=>?_);refine kbb (show w1.heap[w.heap.size+1]?=some (.cells #[.slice f0 d.jobs.length l0,.slice f1 d.released.length l1,.int .i64 d.next,.slice f2 d.ins.length l2,.slice f3 d.taken.length l3,.slice f4 d.outs.length l4,.slice f5 d.events.length l5] 45) from (hb_w1.block _ byS).trans byH) (fun r_w1 cr_w1 fr_w1 zr_w1=>?_);refine armT w hb_w1 (fun h_w1 s_w1 t_w1 hb_w1=>?_);(try simp at t_w1))
 go_wp2_with fail
 (go_at_call 103;refine (HI3.out _ byB).mono ?_;rintro e w2 ⟨rfl,hb_w2⟩;refine kbb (kb p_w1 hb_w2) (fun p_w2 cp_w2 fp_w2 zp_w2=>?_);refine kbb (kb r_w1 hb_w2) (fun r_w2 cr_w2 fr_w2 zr_w2=>?_);refine armT w hb_w2 (fun h_w2 s_w2 t_w2 hb_w2=>?_);(try simp at t_w2);clear p_w1 cp_w1 fp_w1 r_w1 cr_w1 fr_w1)
 go_wp2_with fail
 go_loopw [5] (fun iv wr=>∃i:Nat,i≤d.jobs.length∧iv= .int .i64 i∧wr.heap[w.heap.size]?=some (.cells #[.slice e0 d.jobs.length k0,.slice e1 d.released.length k1,.int .i64 d.next,.slice e2 d.ins.length k2,.slice e3 d.taken.length k3,.slice e4 d.outs.length k4,.slice e5 d.events.length k5] 45)∧wr.heap[w.heap.size+1]?=some (.cells #[.slice f0 d.jobs.length l0,.slice f1 d.released.length l1,.int .i64 d.next,.slice f2 d.ins.length l2,.slice f3 d.taken.length l3,.slice f4 d.outs.length l4,.slice f5 d.events.length l5] 45)∧Below w.heap.size w wr) (fun iv _=>d.jobs.length - (intOf iv).toNat)
 case atStart=>exact ⟨0,Nat.zero_le _,rfl,p_w2,r_w2,h_w2⟩
 case round=>
  clear p_w2 r_w2 h_w2 cp_w2 fp_w2 zp_w2 cr_w2 fr_w2 zr_w2 hb_w2 hb_w1 h_w1
  obtain ⟨i,hi,rfl,hp,hr,hbr⟩:=hrel
  obtain ⟨cp,fp,zp⟩:=blk hp
  obtain ⟨cr,fr,zr⟩:=blk hr
  have so:=hbr.size
  obtain ⟨wo,rfl⟩:∃wo:World,wo=wr:=⟨_,rfl⟩
  by_cases hlt:i < d.jobs.length
  ·obtain ⟨b,o,rfl,hI,c0,c1,c2,c3,c4,c5⟩:=(hs0.next hB hbr).at_job hlt
   obtain ⟨b',o',rfl,hI',d0,d1,d2,d3,d4,d5⟩:=(ht0.next hB hbr).at_job hlt
   have hi0:(0:Int)≤i:=by omega
   have hi1:(i:Int) < d.jobs.length:=by omega
   have hbl:b < wo.heap.size:=Nat.lt_of_lt_of_le hI (Nat.le_trans hB so)
   have hbl':b' < wo.heap.size:=Nat.lt_of_lt_of_le hI' (Nat.le_trans hB so)
   have hneq:=fun w=>neqJob (nth d.jobs i) (nth d.jobs i) w
   rw [show diffT (nth d.jobs i) (nth d.jobs i)=false by simp [diffT]] at hneq
   have hgd:=guardJob
   go_wp2_with fail
   go_quiet (fail)
   go_wp2_with fail
   go_roundw
   case rel=>exact ⟨i+1,by omega,by go_num,byH,byH,below_drewN hbr _⟩
   case measure=>simp [intOf];omega
  ·obtain rfl:i=d.jobs.length:=by omega
   clear hi
   go_wp2_with fail
   go_loopw [6] (fun iv wr=>∃i:Nat,i≤d.ins.length∧iv= .int .i64 i∧wr.heap[w.heap.size]?=some (.cells #[.slice e0 d.jobs.length k0,.slice e1 d.released.length k1,.int .i64 d.next,.slice e2 d.ins.length k2,.slice e3 d.taken.length k3,.slice e4 d.outs.length k4,.slice e5 d.events.length k5] 45)∧wr.heap[w.heap.size+1]?=some (.cells #[.slice f0 d.jobs.length l0,.slice f1 d.released.length l1,.int .i64 d.next,.slice f2 d.ins.length l2,.slice f3 d.taken.length l3,.slice f4 d.outs.length l4,.slice f5 d.events.length l5] 45)∧Below w.heap.size w wr) (fun iv _=>d.ins.length - (intOf iv).toNat)
   case atStart=>exact ⟨0,Nat.zero_le _,rfl,hp,hr,hbr⟩
   case round=>
    clear hp hr hbr cp fp zp cr fr zr so
    obtain ⟨i,hi,rfl,hp,hr,hbr⟩:=hrel
    obtain ⟨cp,fp,zp⟩:=blk hp
    obtain ⟨cr,fr,zr⟩:=blk hr
    have so:=hbr.size
    obtain ⟨wo,rfl⟩:∃wo:World,wo=wr:=⟨_,rfl⟩
    by_cases hlt:i < d.ins.length
    ·obtain ⟨b,o,A1,m1,rfl,hI,c0,c1,hin⟩:=(hs2.next hB hbr).at_ring hlt
     obtain ⟨b',o',A2,m2,rfl,hI',d0,d1,hin'⟩:=(ht2.next hB hbr).at_ring hlt
     have hi0:(0:Int)≤i:=by omega
     have hi1:(i:Int) < d.ins.length:=by omega
     have hbl:b < wo.heap.size:=Nat.lt_of_lt_of_le hI (Nat.le_trans hB so)
     have hbl':b' < wo.heap.size:=Nat.lt_of_lt_of_le hI' (Nat.le_trans hB so)
     have HC:=fun W (h:Below wo.heap.size wo W)=>refSameRing (nth d.ins i).vals (nth d.ins i).vals (nth d.ins i).lost (nth d.ins i).lost A1 A2 m1 m2 B W (Nat.le_trans (Nat.le_trans hB so) h.size) (hin.next (Nat.le_trans hB so) h) (hin'.next (Nat.le_trans hB so) h)
     rw [show (decide ((nth d.ins i).lost=(nth d.ins i).lost)&&decide ((nth d.ins i).vals=(nth d.ins i).vals))=true by simp] at HC
     replace HC:=zH HC
     clear hin hin'
     go_wp2_with fail
     (refine wp_region_still_tail 10 (by kernel_rfl) (by kernel_rfl) ?_;simp only [List.take_succ_cons,List.take_zero,List.drop_succ_cons,List.drop_zero];(iterate 10 (with_reducible refine wpStill_step (fun K hK=>?_);replace hK:=zH hK;go_simp;with_reducible refine hK.out _ ?_;clear hK K));refine wpStill_nil ?_)
     change wpList _ _ _ _ _ wo.drew
     go_wp2_with fail
     (go_at_call 104;refine (HC.out _ byB).mono ?_;rintro e w1 ⟨rfl,hb_w1⟩;refine kbb (show w1.heap[w.heap.size]?=some (.cells #[.slice e0 d.jobs.length k0,.slice e1 d.released.length k1,.int .i64 d.next,.slice (some ⟨b,o,none⟩) d.ins.length k2,.slice e3 d.taken.length k3,.slice e4 d.outs.length k4,.slice e5 d.events.length k5] 45) from (hb_w1.block _ byS).trans byH) (fun p_w1 cp_w1 fp_w1 zp_w1=>?_);refine kbb (show w1.heap[w.heap.size+1]?=some (.cells #[.slice f0 d.jobs.length l0,.slice f1 d.released.length l1,.int .i64 d.next,.slice (some ⟨b',o',none⟩) d.ins.length l2,.slice f3 d.taken.length l3,.slice f4 d.outs.length l4,.slice f5 d.events.length l5] 45) from (hb_w1.block _ byS).trans byH) (fun r_w1 cr_w1 fr_w1 zr_w1=>?_);refine armT w hb_w1 (fun h_w1 s_w1 t_w1 hb_w1=>?_);(try simp at t_w1))
     go_wp2_with fail
     go_roundw
     case rel=>exact ⟨i+1,by omega,by go_num,byH,byH,byB⟩
     case measure=>simp [intOf];omega
    ·obtain rfl:i=d.ins.length:=by omega
     clear hi
     go_wp2_with fail
     go_loopw [7] (fun iv wr=>∃i:Nat,i≤d.outs.length∧iv= .int .i64 i∧wr.heap[w.heap.size]?=some (.cells #[.slice e0 d.jobs.length k0,.slice e1 d.released.length k1,.int .i64 d.next,.slice e2 d.ins.length k2,.slice e3 d.taken.length k3,.slice e4 d.outs.length k4,.slice e5 d.events.length k5] 45)∧wr.heap[w.heap.size+1]?=some (.cells #[.slice f0 d.jobs.length l0,.slice f1 d.released.length l1,.int .i64 d.next,.slice f2 d.ins.length l2,.slice f3 d.taken.length l3,.slice f4 d.outs.length l4,.slice f5 d.events.length l5] 45)∧Below w.heap.size w wr) (fun iv _=>d.outs.length - (intOf iv).toNat)
     case atStart=>exact ⟨0,Nat.zero_le _,rfl,hp,hr,hbr⟩
     case round=>
      clear hp hr hbr cp fp zp cr fr zr so
      obtain ⟨i,hi,rfl,hp,hr,hbr⟩:=hrel
      obtain ⟨cp,fp,zp⟩:=blk hp
      obtain ⟨cr,fr,zr⟩:=blk hr
      have so:=hbr.size
      obtain ⟨wo,rfl⟩:∃wo:World,wo=wr:=⟨_,rfl⟩
      by_cases hlt:i < d.outs.length
      ·obtain ⟨b,o,A1,m1,rfl,hI,c0,hin⟩:=(hs4.next hB hbr).at_slice hlt
       obtain ⟨b',o',A2,m2,rfl,hI',d0,hin'⟩:=(ht4.next hB hbr).at_slice hlt
       have hi0:(0:Int)≤i:=by omega
       have hi1:(i:Int) < d.outs.length:=by omega
       have hbl:b < wo.heap.size:=Nat.lt_of_lt_of_le hI (Nat.le_trans hB so)
       have hbl':b' < wo.heap.size:=Nat.lt_of_lt_of_le hI' (Nat.le_trans hB so)
       have HC:=fun W (h:Below wo.heap.size wo W)=>refSameInts (nth d.outs i) (nth d.outs i) A1 A2 m1 m2 B W (Nat.le_trans (Nat.le_trans hB so) h.size) (hin.next (Nat.le_trans hB so) h) (hin'.next (Nat.le_trans hB so) h)
       rw [show decide (nth d.outs i=nth d.outs i)=true by simp] at HC
       replace HC:=zH HC
       clear hin hin'
       go_wp2_with fail
       (refine wp_region_still_tail 10 (by kernel_rfl) (by kernel_rfl) ?_;simp only [List.take_succ_cons,List.take_zero,List.drop_succ_cons,List.drop_zero];(iterate 10 (with_reducible refine wpStill_step (fun K hK=>?_);replace hK:=zH hK;go_simp;with_reducible refine hK.out _ ?_;clear hK K));refine wpStill_nil ?_)
       change wpList _ _ _ _ _ wo.drew
       go_wp2_with fail
       (go_at_call 103;refine (HC.out _ byB).mono ?_;rintro e w1 ⟨rfl,hb_w1⟩;refine kbb (show w1.heap[w.heap.size]?=some (.cells #[.slice e0 d.jobs.length k0,.slice e1 d.released.length k1,.int .i64 d.next,.slice e2 d.ins.length k2,.slice e3 d.taken.length k3,.slice (some ⟨b,o,none⟩) d.outs.length k4,.slice e5 d.events.length k5] 45) from (hb_w1.block _ byS).trans byH) (fun p_w1 cp_w1 fp_w1 zp_w1=>?_);refine kbb (show w1.heap[w.heap.size+1]?=some (.cells #[.slice f0 d.jobs.length l0,.slice f1 d.released.length l1,.int .i64 d.next,.slice f2 d.ins.length l2,.slice f3 d.taken.length l3,.slice (some ⟨b',o',none⟩) d.outs.length l4,.slice f5 d.events.length l5] 45) from (hb_w1.block _ byS).trans byH) (fun r_w1 cr_w1 fr_w1 zr_w1=>?_);refine armT w hb_w1 (fun h_w1 s_w1 t_w1 hb_w1=>?_);(try simp at t_w1))
       go_wp2_with fail
       go_roundw
       case rel=>exact ⟨i+1,by omega,by go_num,byH,byH,byB⟩
       case measure=>simp [intOf];omega
      ·obtain rfl:i=d.outs.length:=by omega
       clear hi
       go_wp2_with fail
       go_loopw [8] (fun iv wr=>∃i:Nat,i≤d.events.length∧iv= .int .i64 i∧wr.heap[w.heap.size]?=some (.cells #[.slice e0 d.jobs.length k0,.slice e1 d.released.length k1,.int .i64 d.next,.slice e2 d.ins.length k2,.slice e3 d.taken.length k3,.slice e4 d.outs.length k4,.slice e5 d.events.length k5] 45)∧wr.heap[w.heap.size+1]?=some (.cells #[.slice f0 d.jobs.length l0,.slice f1 d.released.length l1,.int .i64 d.next,.slice f2 d.ins.length l2,.slice f3 d.taken.length l3,.slice f4 d.outs.length l4,.slice f5 d.events.length l5] 45)∧Below w.heap.size w wr) (fun iv _=>d.events.length - (intOf iv).toNat)
       case atStart=>exact ⟨0,Nat.zero_le _,rfl,hp,hr,hbr⟩
       case round=>
        clear hp hr hbr cp fp zp cr fr zr so
        obtain ⟨i,hi,rfl,hp,hr,hbr⟩:=hrel
        obtain ⟨cp,fp,zp⟩:=blk hp
        obtain ⟨cr,fr,zr⟩:=blk hr
        have so:=hbr.size
        obtain ⟨wo,rfl⟩:∃wo:World,wo=wr:=⟨_,rfl⟩
        by_cases hlt:i < d.events.length
        ·obtain ⟨b,o,rfl,hI,c0,c1,c2,c3⟩:=(hs5.next hB hbr).at_ev hlt
         obtain ⟨b',o',rfl,hI',d0,d1,d2,d3⟩:=(ht5.next hB hbr).at_ev hlt
         have hi0:(0:Int)≤i:=by omega
         have hi1:(i:Int) < d.events.length:=by omega
         have hbl:b < wo.heap.size:=Nat.lt_of_lt_of_le hI (Nat.le_trans hB so)
         have hbl':b' < wo.heap.size:=Nat.lt_of_lt_of_le hI' (Nat.le_trans hB so)
         have hneq:=fun w=>neqEv (nth d.events i) (nth d.events i) w
         rw [show diffT (nth d.events i) (nth d.events i)=false by simp [diffT]] at hneq
         have hgd:=guardEv
         go_wp2_with fail
         go_quiet (fail)
         go_wp2_with fail
         go_roundw
         case rel=>exact ⟨i+1,by omega,by go_num,byH,byH,below_drewN hbr _⟩
         case measure=>simp [intOf];omega
        ·obtain rfl:i=d.events.length:=by omega
         clear hi
         go_wp2_with fail
         go_ret
         exact ⟨ret_bool (by simp),hbr⟩
theorem lawDomainIs (d:TDom)(S T:TDomS)(err:Int)(hz:err≠0→d=noDom)(B:Nat)(w:World)(hB:B≤w.heap.size)(hs:TDom.At (Low B) w d S)(ht:TDom.At (Low B) w d T):
  Calls Try.prog 20 #[.agg #[.slice S.a0 d.jobs.length S.n0,.slice S.a1 d.released.length S.n1,.int .i64 d.next,.slice S.a2 d.ins.length S.n2,.slice S.a3 d.taken.length S.n3,.slice S.a4 d.outs.length S.n4,.slice S.a5 d.events.length S.n5],.int .i64 err,.int .i64 err,.agg #[.slice T.a0 d.jobs.length T.n0,.slice T.a1 d.released.length T.n1,.int .i64 d.next,.slice T.a2 d.ins.length T.n2,.slice T.a3 d.taken.length T.n3,.slice T.a4 d.outs.length T.n4,.slice T.a5 d.events.length T.n5]] w fun e w'=>e= .returned (.bool true)∧Below w.heap.size w w':=by
 by_cases he:err=0
 ·subst he
  have HS:=zH (fun W (h:Below w.heap.size w W)=>refSameDomain d S T B W (Nat.le_trans hB h.size) (hs.next hB h) (ht.next hB h))
  go_enter Try.func20,Try.ntmps20
  go_wp2_with (go_at_call 60;refine (HS.out _ byB).mono ?_;rintro e w1 ⟨rfl,hb1⟩)
  go_ret
  exact ⟨rfl,byB⟩
 ·have hd:=hz he
  subst hd
  have HS:=fun W (h:Below w.heap.size w W)=>refSameDomain noDom S noDomS B W (Nat.le_trans hB h.size) (hs.next hB h) ((noDom_own W).read fun _ _ h=>h.elim)
  have b1:(err !=0)=true:=by simp [he]
  simp only [noDom,noDomS,List.length_nil] at HS⊢
  replace HS:=zH HS
  clear hz hs ht he
  go_enter Try.func20,Try.ntmps20
  go_wp2_with (go_at_call 60;refine (HS.out _ byB).mono ?_;rintro e w1 ⟨rfl,hb1⟩)
  go_ret
  exact ⟨rfl,byB⟩
end
end Go.Proofs.Ytinlmkhlgclbfab
