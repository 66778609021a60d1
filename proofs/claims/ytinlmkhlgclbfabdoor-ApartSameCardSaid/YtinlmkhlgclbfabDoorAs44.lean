/- NeqJob to Open -/
import Derived.Test.YtinlmkhlgclbfabDoorAs38
import Derived.Laws.StructEq
import Derived.ProofKit
import Derived.Deep.Slices
import Derived.Lib.SmallJoins
import Derived.SizedLaws
section
namespace Go.Proofs.YtinlmkhlgclbfabDoor
open Go.RowKit
set_option maxRecDepth 100000
set_option maxHeartbeats 400000
theorem neqJob (x y:TJob)(w:World):(binOp .neq 74 (.agg #[.int .i64 x.task,.int .i64 x.number,.int .i64 x.released,.int .i64 x.used,.bool x.ran,.bool x.missed]) (.agg #[.int .i64 y.task,.int .i64 y.number,.int .i64 y.released,.int .i64 y.used,.bool y.ran,.bool y.missed])).run Tryd.prog w= .ok (.bool (diffT x y)) w:=by
 have hf:=congrArg (fun u:Option TypeDesc=>match u with|some (.struct fs)=>fs|_=>#[]) Tryd.underlying74
 change Tryd.prog.fieldsOf 74=_ at hf
 simp only at hf
 rw [run_neq_struct,run_equalIn_agg _ _ _ _ _ (by rw [hf];exact Tryd.underlying74) (by kernel_rfl),hf]
 have u1:=Tryd.underlying3
 have u2:=Tryd.underlying4
 have hd:diffT x y= !(x.task==y.task&&x.number==y.number&&x.released==y.released&&x.used==y.used&&x.ran==y.ran&&x.missed==y.missed):=by
  unfold diffT
  congr 1
  rw [Bool.eq_iff_iff]
  cases x;cases y;simp [and_assoc]
 rw [hd]
 clear hd
 simp [Op.eqFields,go_sem, *]
 (repeat' split)<;>simp_all
theorem guardJob:Tryd.prog.eqGuardType Tryd.prog.depth 74=false:=by kernel_rfl
end Go.Proofs.YtinlmkhlgclbfabDoor
end

section
namespace Go.Proofs.YtinlmkhlgclbfabDoor
open Go.RowKit
set_option maxRecDepth 100000
set_option maxHeartbeats 400000
theorem neqEv (x y:TEv)(w:World):(binOp .neq 79 (.agg #[.int .i64 x.t,.int .i64 x.kind,.int .i64 x.a,.int .i64 x.b]) (.agg #[.int .i64 y.t,.int .i64 y.kind,.int .i64 y.a,.int .i64 y.b])).run Tryd.prog w= .ok (.bool (diffT x y)) w:=by
 have hf:=congrArg (fun u:Option TypeDesc=>match u with|some (.struct fs)=>fs|_=>#[]) Tryd.underlying79
 change Tryd.prog.fieldsOf 79=_ at hf
 simp only at hf
 rw [run_neq_struct,run_equalIn_agg _ _ _ _ _ (by rw [hf];exact Tryd.underlying79) (by kernel_rfl),hf]
 have u1:=Tryd.underlying3
 have u2:=Tryd.underlying4
 have hd:diffT x y= !(x.t==y.t&&x.kind==y.kind&&x.a==y.a&&x.b==y.b):=by
  unfold diffT
  congr 1
  rw [Bool.eq_iff_iff]
  cases x;cases y;simp [and_assoc]
 rw [hd]
 clear hd
 simp [Op.eqFields,go_sem, *]
 (repeat' split)<;>simp_all
theorem guardEv:Tryd.prog.eqGuardType Tryd.prog.depth 79=false:=by kernel_rfl
end Go.Proofs.YtinlmkhlgclbfabDoor
end

section
namespace Go.Proofs.YtinlmkhlgclbfabDoor
open Go.RowKit
set_option maxRecDepth 100000
set_option maxHeartbeats 8000000
theorem refSameDomain (d:TDom)(S T:TDomS)(B:Nat)(w:World)(hB:B≤w.heap.size)(hs:TDom.At (Low B) w d S)(ht:TDom.At (Low B) w d T):
  Calls Tryd.prog 11 #[.agg #[.slice S.a0 d.jobs.length S.n0,.slice S.a1 d.released.length S.n1,.int .i64 d.next,.slice S.a2 d.ins.length S.n2,.slice S.a3 d.taken.length S.n3,.slice S.a4 d.outs.length S.n4,.slice S.a5 d.events.length S.n5],.agg #[.slice T.a0 d.jobs.length T.n0,.slice T.a1 d.released.length T.n1,.int .i64 d.next,.slice T.a2 d.ins.length T.n2,.slice T.a3 d.taken.length T.n3,.slice T.a4 d.outs.length T.n4,.slice T.a5 d.events.length T.n5]] w fun e w'=>e= .returned (.bool true)∧Below w.heap.size w w':=by
 obtain ⟨q0,q1,q2,q3,q4,q5⟩:=dom_len hs
 obtain ⟨e0,k0,e1,k1,e2,k2,e3,k3,e4,k4,e5,k5⟩:=S
 obtain ⟨hs0,hs1,hs2,hs3,hs4,hs5⟩:=hs
 obtain ⟨f0,l0,f1,l1,f2,l2,f3,l3,f4,l4,f5,l5⟩:=T
 obtain ⟨ht0,ht1,ht2,ht3,ht4,ht5⟩:=ht
 dsimp only at hs0 hs1 hs2 hs3 hs4 hs5 ht0 ht1 ht2 ht3 ht4 ht5⊢
 have HI1:=fun W (h:Below w.heap.size w W)=>(refSameInts d.released d.released e1 f1 k1 l1 B W (Nat.le_trans hB h.size) (hs1.next hB h) (ht1.next hB h))
 have HI3:=fun W (h:Below w.heap.size w W)=>(refSameInts d.taken d.taken e3 f3 k3 l3 B W (Nat.le_trans hB h.size) (hs3.next hB h) (ht3.next hB h))
 rw [show decide (d.released=d.released)=true by simp] at HI1
 rw [show decide (d.taken=d.taken)=true by simp] at HI3
 replace HI1:=zH HI1
 replace HI3:=zH HI3
 clear hs1 ht1 hs3 ht3
 go_enter Tryd.func11,Tryd.ntmps11
 go_wp2_with fail
 (go_at_call 22;refine (HI1.out _ byB).mono ?_;rintro e w1 ⟨rfl,hb_w1⟩;refine kbb (show w1.heap[w.heap.size]?=some (.cells #[.slice e0 d.jobs.length k0,.slice e1 d.released.length k1,.int .i64 d.next,.slice e2 d.ins.length k2,.slice e3 d.taken.length k3,.slice e4 d.outs.length k4,.slice e5 d.events.length k5] 46) from (hb_w1.block _ byS).trans byH) (fun p_w1 cp_w1 fp_w1 zp_w1=>?_);refine kbb (show w1.heap[w.heap.size+1]?=some (.cells #[.slice f0 d.jobs.length l0,.slice f1 d.released.length l1,.int .i64 d.next,.slice f2 d.ins.length l2,.slice f3 d.taken.length l3,.slice f4 d.outs.length l4,.slice f5 d.events.length l5] 46) from (hb_w1.block _ byS).trans byH) (fun r_w1 cr_w1 fr_w1 zr_w1=>?_);refine armT w hb_w1 (fun h_w1 s_w1 t_w1 hb_w1=>?_);(try simp at t_w1))
 go_wp2_with fail
 (go_at_call 22;refine (HI3.out _ byB).mono ?_;rintro e w2 ⟨rfl,hb_w2⟩;refine kbb (kb p_w1 hb_w2) (fun p_w2 cp_w2 fp_w2 zp_w2=>?_);refine kbb (kb r_w1 hb_w2) (fun r_w2 cr_w2 fr_w2 zr_w2=>?_);refine armT w hb_w2 (fun h_w2 s_w2 t_w2 hb_w2=>?_);(try simp at t_w2);clear p_w1 cp_w1 fp_w1 r_w1 cr_w1 fr_w1)
 go_wp2_with fail
 go_loopw [5] (fun iv wr=>∃i:Nat,i≤d.jobs.length∧iv= .int .i64 i∧wr.heap[w.heap.size]?=some (.cells #[.slice e0 d.jobs.length k0,.slice e1 d.released.length k1,.int .i64 d.next,.slice e2 d.ins.length k2,.slice e3 d.taken.length k3,.slice e4 d.outs.length k4,.slice e5 d.events.length k5] 46)∧wr.heap[w.heap.size+1]?=some (.cells #[.slice f0 d.jobs.length l0,.slice f1 d.released.length l1,.int .i64 d.next,.slice f2 d.ins.length l2,.slice f3 d.taken.length l3,.slice f4 d.outs.length l4,.slice f5 d.events.length l5] 46)∧Below w.heap.size w wr) (fun iv _=>d.jobs.length - (intOf iv).toNat)
 case atStart=>exact ⟨0,Nat.zero_le _,rfl,p_w2,r_w2,h_w2⟩
 case round=>
  clear p_w2 r_w2 h_w2 cp_w2 fp_w2 zp_w2 cr_w2 fr_w2 zr_w2 hb_w2 hb_w1 h_w1
  obtain ⟨i,hi,rfl,hp,hr,hbr⟩:=hrel
  obtain ⟨cp,fp,zp⟩:=blk hp
  obtain ⟨cr,fr,zr⟩:=blk hr
  have so:=hbr.size
  obtain ⟨wo,rfl⟩:∃wo:World,wo=wr:=⟨_,rfl⟩
  by_cases hlt:i < d.jobs.length
  ·obtain ⟨b,o,rfl,hI,c0,c1,c2,c3,c4,c5⟩:=(hs0.next hB hbr).at_job hlt
   obtain ⟨b',o',rfl,hI',d0,d1,d2,d3,d4,d5⟩:=(ht0.next hB hbr).at_job hlt
   have hi0:(0:Int)≤i:=by omega
   have hi1:(i:Int) < d.jobs.length:=by omega
   have hbl:b < wo.heap.size:=Nat.lt_of_lt_of_le hI (Nat.le_trans hB so)
   have hbl':b' < wo.heap.size:=Nat.lt_of_lt_of_le hI' (Nat.le_trans hB so)
   have hneq:=fun w=>neqJob (nth d.jobs i) (nth d.jobs i) w
   rw [show diffT (nth d.jobs i) (nth d.jobs i)=false by simp [diffT]] at hneq
   have hgd:=guardJob
   go_wp2_with fail
   go_quiet (fail)
   go_wp2_with fail
   go_roundw
   case rel=>exact ⟨i+1,by omega,by go_num,byH,byH,below_drewN hbr _⟩
   case measure=>simp [intOf];omega
  ·obtain rfl:i=d.jobs.length:=by omega
   clear hi
   go_wp2_with fail
   go_loopw [6] (fun iv wr=>∃i:Nat,i≤d.ins.length∧iv= .int .i64 i∧wr.heap[w.heap.size]?=some (.cells #[.slice e0 d.jobs.length k0,.slice e1 d.released.length k1,.int .i64 d.next,.slice e2 d.ins.length k2,.slice e3 d.taken.length k3,.slice e4 d.outs.length k4,.slice e5 d.events.length k5] 46)∧wr.heap[w.heap.size+1]?=some (.cells #[.slice f0 d.jobs.length l0,.slice f1 d.released.length l1,.int .i64 d.next,.slice f2 d.ins.length l2,.slice f3 d.taken.length l3,.slice f4 d.outs.length l4,.slice f5 d.events.length l5] 46)∧Below w.heap.size w wr) (fun iv _=>d.ins.length - (intOf iv).toNat)
   case atStart=>exact ⟨0,Nat.zero_le _,rfl,hp,hr,hbr⟩
   case round=>
    clear hp hr hbr cp fp zp cr fr zr so
    obtain ⟨i,hi,rfl,hp,hr,hbr⟩:=hrel
    obtain ⟨cp,fp,zp⟩:=blk hp
    obtain ⟨cr,fr,zr⟩:=blk hr
    have so:=hbr.size
    obtain ⟨wo,rfl⟩:∃wo:World,wo=wr:=⟨_,rfl⟩
    by_cases hlt:i < d.ins.length
    ·obtain ⟨b,o,A1,m1,rfl,hI,c0,c1,hin⟩:=(hs2.next hB hbr).at_ring hlt
     obtain ⟨b',o',A2,m2,rfl,hI',d0,d1,hin'⟩:=(ht2.next hB hbr).at_ring hlt
     have hi0:(0:Int)≤i:=by omega
     have hi1:(i:Int) < d.ins.length:=by omega
     have hbl:b < wo.heap.size:=Nat.lt_of_lt_of_le hI (Nat.le_trans hB so)
     have hbl':b' < wo.heap.size:=Nat.lt_of_lt_of_le hI' (Nat.le_trans hB so)
     have HC:=fun W (h:Below wo.heap.size wo W)=>refSameRing (nth d.ins i).vals (nth d.ins i).vals (nth d.ins i).lost (nth d.ins i).lost A1 A2 m1 m2 B W (Nat.le_trans (Nat.le_trans hB so) h.size) (hin.next (Nat.le_trans hB so) h) (hin'.next (Nat.le_trans hB so) h)
     rw [show (decide ((nth d.ins i).lost=(nth d.ins i).lost)&&decide ((nth d.ins i).vals=(nth d.ins i).vals))=true by simp] at HC
     replace HC:=zH HC
     clear hin hin'
     go_wp2_with fail
     (refine wp_region_still_tail 10 (by kernel_rfl) (by kernel_rfl) ?_;simp only [List.take_succ_cons,List.take_zero,List.drop_succ_cons,List.drop_zero];(iterate 10 (with_reducible refine wpStill_step (fun K hK=>?_);replace hK:=zH hK;go_simp;with_reducible refine hK.out _ ?_;clear hK K));refine wpStill_nil ?_)
     change wpList _ _ _ _ _ wo.drew
     go_wp2_with fail
     (go_at_call 23;refine (HC.out _ byB).mono ?_;rintro e w1 ⟨rfl,hb_w1⟩;refine kbb (show w1.heap[w.heap.size]?=some (.cells #[.slice e0 d.jobs.length k0,.slice e1 d.released.length k1,.int .i64 d.next,.slice (some ⟨b,o,none⟩) d.ins.length k2,.slice e3 d.taken.length k3,.slice e4 d.outs.length k4,.slice e5 d.events.length k5] 46) from (hb_w1.block _ byS).trans byH) (fun p_w1 cp_w1 fp_w1 zp_w1=>?_);refine kbb (show w1.heap[w.heap.size+1]?=some (.cells #[.slice f0 d.jobs.length l0,.slice f1 d.released.length l1,.int .i64 d.next,.slice (some ⟨b',o',none⟩) d.ins.length l2,.slice f3 d.taken.length l3,.slice f4 d.outs.length l4,.slice f5 d.events.length l5] 46) from (hb_w1.block _ byS).trans byH) (fun r_w1 cr_w1 fr_w1 zr_w1=>?_);refine armT w hb_w1 (fun h_w1 s_w1 t_w1 hb_w1=>?_);(try simp at t_w1))
     go_wp2_with fail
     go_roundw
     case rel=>exact ⟨i+1,by omega,by go_num,byH,byH,byB⟩
     case measure=>simp [intOf];omega
    ·obtain rfl:i=d.ins.length:=by omega
     clear hi
     go_wp2_with fail
     go_loopw [7] (fun iv wr=>∃i:Nat,i≤d.outs.length∧iv= .int .i64 i∧wr.heap[w.heap.size]?=some (.cells #[.slice e0 d.jobs.length k0,.slice e1 d.released.length k1,.int .i64 d.next,.slice e2 d.ins.length k2,.slice e3 d.taken.length k3,.slice e4 d.outs.length k4,.slice e5 d.events.length k5] 46)∧wr.heap[w.heap.size+1]?=some (.cells #[.slice f0 d.jobs.length l0,.slice f1 d.released.length l1,.int .i64 d.next,.slice f2 d.ins.length l2,.slice f3 d.taken.length l3,.slice f4 d.outs.length l4,.slice f5 d.events.length l5] 46)∧Below w.heap.size w wr) (fun iv _=>d.outs.length - (intOf iv).toNat)
     case atStart=>exact ⟨0,Nat.zero_le _,rfl,hp,hr,hbr⟩
     case round=>
      clear hp hr hbr cp fp zp cr fr zr so
      obtain ⟨i,hi,rfl,hp,hr,hbr⟩:=hrel
      obtain ⟨cp,fp,zp⟩:=blk hp
      obtain ⟨cr,fr,zr⟩:=blk hr
      have so:=hbr.size
      obtain ⟨wo,rfl⟩:∃wo:World,wo=wr:=⟨_,rfl⟩
      by_cases hlt:i < d.outs.length
      ·obtain ⟨b,o,A1,m1,rfl,hI,c0,hin⟩:=(hs4.next hB hbr).at_slice hlt
       obtain ⟨b',o',A2,m2,rfl,hI',d0,hin'⟩:=(ht4.next hB hbr).at_slice hlt
       have hi0:(0:Int)≤i:=by omega
       have hi1:(i:Int) < d.outs.length:=by omega
       have hbl:b < wo.heap.size:=Nat.lt_of_lt_of_le hI (Nat.le_trans hB so)
       have hbl':b' < wo.heap.size:=Nat.lt_of_lt_of_le hI' (Nat.le_trans hB so)
       have HC:=fun W (h:Below wo.heap.size wo W)=>refSameInts (nth d.outs i) (nth d.outs i) A1 A2 m1 m2 B W (Nat.le_trans (Nat.le_trans hB so) h.size) (hin.next (Nat.le_trans hB so) h) (hin'.next (Nat.le_trans hB so) h)
       rw [show decide (nth d.outs i=nth d.outs i)=true by simp] at HC
       replace HC:=zH HC
       clear hin hin'
       go_wp2_with fail
       (refine wp_region_still_tail 10 (by kernel_rfl) (by kernel_rfl) ?_;simp only [List.take_succ_cons,List.take_zero,List.drop_succ_cons,List.drop_zero];(iterate 10 (with_reducible refine wpStill_step (fun K hK=>?_);replace hK:=zH hK;go_simp;with_reducible refine hK.out _ ?_;clear hK K));refine wpStill_nil ?_)
       change wpList _ _ _ _ _ wo.drew
       go_wp2_with fail
       (go_at_call 22;refine (HC.out _ byB).mono ?_;rintro e w1 ⟨rfl,hb_w1⟩;refine kbb (show w1.heap[w.heap.size]?=some (.cells #[.slice e0 d.jobs.length k0,.slice e1 d.released.length k1,.int .i64 d.next,.slice e2 d.ins.length k2,.slice e3 d.taken.length k3,.slice (some ⟨b,o,none⟩) d.outs.length k4,.slice e5 d.events.length k5] 46) from (hb_w1.block _ byS).trans byH) (fun p_w1 cp_w1 fp_w1 zp_w1=>?_);refine kbb (show w1.heap[w.heap.size+1]?=some (.cells #[.slice f0 d.jobs.length l0,.slice f1 d.released.length l1,.int .i64 d.next,.slice f2 d.ins.length l2,.slice f3 d.taken.length l3,.slice (some ⟨b',o',none⟩) d.outs.length l4,.slice f5 d.events.length l5] 46) from (hb_w1.block _ byS).trans byH) (fun r_w1 cr_w1 fr_w1 zr_w1=>?_);refine armT w hb_w1 (fun h_w1 s_w1 t_w1 hb_w1=>?_);(try simp at t_w1))
       go_wp2_with fail
       go_roundw
       case rel=>exact ⟨i+1,by omega,by go_num,byH,byH,byB⟩
       case measure=>simp [intOf];omega
      ·obtain rfl:i=d.outs.length:=by omega
       clear hi
       go_wp2_with fail
       go_loopw [8] (fun iv wr=>∃i:Nat,i≤d.events.length∧iv= .int .i64 i∧wr.heap[w.heap.size]?=some (.cells #[.slice e0 d.jobs.length k0,.slice e1 d.released.length k1,.int .i64 d.next,.slice e2 d.ins.length k2,.slice e3 d.taken.length k3,.slice e4 d.outs.length k4,.slice e5 d.events.length k5] 46)∧wr.heap[w.heap.size+1]?=some (.cells #[.slice f0 d.jobs.length l0,.slice f1 d.released.length l1,.int .i64 d.next,.slice f2 d.ins.length l2,.slice f3 d.taken.length l3,.slice f4 d.outs.length l4,.slice f5 d.events.length l5] 46)∧Below w.heap.size w wr) (fun iv _=>d.events.length - (intOf iv).toNat)
       case atStart=>exact ⟨0,Nat.zero_le _,rfl,hp,hr,hbr⟩
       case round=>
        clear hp hr hbr cp fp zp cr fr zr so
        obtain ⟨i,hi,rfl,hp,hr,hbr⟩:=hrel
        obtain ⟨cp,fp,zp⟩:=blk hp
        obtain ⟨cr,fr,zr⟩:=blk hr
        have so:=hbr.size
        obtain ⟨wo,rfl⟩:∃wo:World,wo=wr:=⟨_,rfl⟩
        by_cases hlt:i < d.events.length
        ·obtain ⟨b,o,rfl,hI,c0,c1,c2,c3⟩:=(hs5.next hB hbr).at_ev hlt
         obtain ⟨b',o',rfl,hI',d0,d1,d2,d3⟩:=(ht5.next hB hbr).at_ev hlt
         have hi0:(0:Int)≤i:=by omega
         have hi1:(i:Int) < d.events.length:=by omega
         have hbl:b < wo.heap.size:=Nat.lt_of_lt_of_le hI (Nat.le_trans hB so)
         have hbl':b' < wo.heap.size:=Nat.lt_of_lt_of_le hI' (Nat.le_trans hB so)
         have hneq:=fun w=>neqEv (nth d.events i) (nth d.events i) w
         rw [show diffT (nth d.events i) (nth d.events i)=false by simp [diffT]] at hneq
         have hgd:=guardEv
         go_wp2_with fail
         go_quiet (fail)
         go_wp2_with fail
         go_roundw
         case rel=>exact ⟨i+1,by omega,by go_num,byH,byH,below_drewN hbr _⟩
         case measure=>simp [intOf];omega
        ·obtain rfl:i=d.events.length:=by omega
         clear hi
         go_wp2_with fail
         go_ret
         exact ⟨ret_bool (by simp),hbr⟩
end Go.Proofs.YtinlmkhlgclbfabDoor
end

section
namespace Go.Proofs.YtinlmkhlgclbfabDoor
open Go.RowKit
set_option maxRecDepth 100000
set_option maxHeartbeats 400000
theorem neqAct (x y:TAct)(w:World):(binOp .neq 52 (.agg #[.int .i64 x.kind,.int .i64 x.n,.int .i64 x.value]) (.agg #[.int .i64 y.kind,.int .i64 y.n,.int .i64 y.value])).run Tryd.prog w= .ok (.bool (diffT x y)) w:=by
 have hf:=congrArg (fun u:Option TypeDesc=>match u with|some (.struct fs)=>fs|_=>#[]) Tryd.underlying52
 change Tryd.prog.fieldsOf 52=_ at hf
 simp only at hf
 rw [run_neq_struct,run_equalIn_agg _ _ _ _ _ (by rw [hf];exact Tryd.underlying52) (by kernel_rfl),hf]
 have u1:=Tryd.underlying3
 have u2:=Tryd.underlying4
 have hd:diffT x y= !(x.kind==y.kind&&x.n==y.n&&x.value==y.value):=by
  unfold diffT
  congr 1
  rw [Bool.eq_iff_iff]
  cases x;cases y;simp [and_assoc]
 rw [hd]
 clear hd
 simp [Op.eqFields,go_sem, *]
 (repeat' split)<;>simp_all
theorem guardAct:Tryd.prog.eqGuardType Tryd.prog.depth 52=false:=by kernel_rfl
end Go.Proofs.YtinlmkhlgclbfabDoor
end

section
namespace Go.Proofs.YtinlmkhlgclbfabDoor
open Go.RowKit
set_option maxRecDepth 100000
set_option maxHeartbeats 400000
theorem neqArr (x y:TArr)(w:World):(binOp .neq 86 (.agg #[.int .i64 x.t,.int .i64 x.line]) (.agg #[.int .i64 y.t,.int .i64 y.line])).run Tryd.prog w= .ok (.bool (diffT x y)) w:=by
 have hf:=congrArg (fun u:Option TypeDesc=>match u with|some (.struct fs)=>fs|_=>#[]) Tryd.underlying86
 change Tryd.prog.fieldsOf 86=_ at hf
 simp only at hf
 rw [run_neq_struct,run_equalIn_agg _ _ _ _ _ (by rw [hf];exact Tryd.underlying86) (by kernel_rfl),hf]
 have u1:=Tryd.underlying3
 have u2:=Tryd.underlying4
 have hd:diffT x y= !(x.t==y.t&&x.line==y.line):=by
  unfold diffT
  congr 1
  rw [Bool.eq_iff_iff]
  cases x;cases y;simp [and_assoc]
 rw [hd]
 clear hd
 simp [Op.eqFields,go_sem, *]
 (repeat' split)<;>simp_all
theorem guardArr:Tryd.prog.eqGuardType Tryd.prog.depth 86=false:=by kernel_rfl
end Go.Proofs.YtinlmkhlgclbfabDoor
end

section
namespace Go.Proofs.YtinlmkhlgclbfabDoor
open Go.RowKit
set_option maxRecDepth 100000
set_option maxHeartbeats 8000000
theorem refSameActions (xs:List TAct)(A A':Option Addr)(n n':Nat)(B:Nat)(w:World)(hB:B≤w.heap.size)(hs:Sl cAct (Low B) w A n xs)(ht:Sl cAct (Low B) w A' n' xs):
  Calls Tryd.prog 24 #[.slice A xs.length n,.slice A' xs.length n'] w fun e w'=>e= .returned (.bool true)∧Below w.heap.size w w':=by
 have m0:=Nat.le_trans hs.cap hs.max
 unfold maxLen at m0
 go_enter Tryd.func24,Tryd.ntmps24
 go_wp2_with fail
 go_loopw [5] (fun iv wr=>∃i:Nat,i≤xs.length∧iv= .int .i64 i∧Below w.heap.size w wr) (fun iv _=>xs.length - (intOf iv).toNat)
 case atStart=>exact ⟨0,Nat.zero_le _,rfl,byB⟩
 case round=>
  obtain ⟨i,hi,rfl,hbr⟩:=hrel
  have so:=hbr.size
  obtain ⟨wo,rfl⟩:∃wo:World,wo=wr:=⟨_,rfl⟩
  by_cases hlt:i < xs.length
  ·have hi0:(0:Int)≤i:=by omega
   have hi1:(i:Int) < xs.length:=by omega
   obtain ⟨b,o,rfl,hI,c0,c1,c2⟩:=(hs.next hB hbr).at_act hlt
   obtain ⟨b',o',rfl,hI',d0,d1,d2⟩:=(ht.next hB hbr).at_act hlt
   have hneq:=fun w=>neqAct (nth xs i) (nth xs i) w
   rw [show diffT (nth xs i) (nth xs i)=false by simp [diffT]] at hneq
   have hgd:=guardAct
   go_wp2_with fail
   go_quiet (fail)
   go_wp2_with fail
   go_roundw
   case rel=>exact ⟨i+1,by omega,by go_num,below_drewN hbr _⟩
   case measure=>simp [intOf];omega
  ·obtain rfl:i=xs.length:=by omega
   go_wp2_with fail
   go_ret
   exact ⟨rfl,hbr⟩
theorem refSameScript (sc:TScr)(Z Y:TScrS)(B:Nat)(w:World)(hB:B≤w.heap.size)(hs:TScr.At (Low B) w sc Z)(ht:TScr.At (Low B) w sc Y):
  Calls Tryd.prog 14 #[.agg #[.slice Z.a0 sc.actions.length Z.n0,.slice Z.a1 sc.arrivals.length Z.n1,.int .i64 sc.rounds],.agg #[.slice Y.a0 sc.actions.length Y.n0,.slice Y.a1 sc.arrivals.length Y.n1,.int .i64 sc.rounds]] w fun e w'=>e= .returned (.bool true)∧Below w.heap.size w w':=by
 obtain ⟨e0,k0,e1,k1⟩:=Z
 obtain ⟨hs0,hs1⟩:=hs
 obtain ⟨f0,l0,f1,l1⟩:=Y
 obtain ⟨ht0,ht1⟩:=ht
 dsimp only at hs0 hs1 ht0 ht1⊢
 have m0:=Nat.le_trans hs0.cap hs0.max
 have m1:=Nat.le_trans hs1.cap hs1.max
 unfold maxLen at m0 m1
 go_enter Tryd.func14,Tryd.ntmps14
 go_wp2_with fail
 go_loopw [5] (fun iv wr=>∃i:Nat,i≤sc.actions.length∧iv= .int .i64 i∧wr.heap[w.heap.size]?=some (.cells #[.slice e0 sc.actions.length k0,.slice e1 sc.arrivals.length k1,.int .i64 sc.rounds] 31)∧wr.heap[w.heap.size+1]?=some (.cells #[.slice f0 sc.actions.length l0,.slice f1 sc.arrivals.length l1,.int .i64 sc.rounds] 31)∧Below w.heap.size w wr) (fun iv _=>sc.actions.length - (intOf iv).toNat)
 case atStart=>exact ⟨0,Nat.zero_le _,rfl,byH,byH,byB⟩
 case round=>
  obtain ⟨i,hi,rfl,hp,hr,hbr⟩:=hrel
  obtain ⟨cp,fp,zp⟩:=blk hp
  obtain ⟨cr,fr,zr⟩:=blk hr
  have so:=hbr.size
  obtain ⟨wo,rfl⟩:∃wo:World,wo=wr:=⟨_,rfl⟩
  by_cases hlt:i < sc.actions.length
  ·obtain ⟨b,o,A1,q1,rfl,hI,c0,hin⟩:=(hs0.next hB hbr).at_slice hlt
   obtain ⟨b',o',A2,q2,rfl,hI',d0,hin'⟩:=(ht0.next hB hbr).at_slice hlt
   have hi0:(0:Int)≤i:=by omega
   have hi1:(i:Int) < sc.actions.length:=by omega
   have hbl:b < wo.heap.size:=Nat.lt_of_lt_of_le hI (Nat.le_trans hB so)
   have hbl':b' < wo.heap.size:=Nat.lt_of_lt_of_le hI' (Nat.le_trans hB so)
   have HC:=zH (fun W (h:Below wo.heap.size wo W)=>refSameActions (nth sc.actions i) A1 A2 q1 q2 B W (Nat.le_trans (Nat.le_trans hB so) h.size) (hin.next (Nat.le_trans hB so) h) (hin'.next (Nat.le_trans hB so) h))
   clear hin hin'
   go_wp2_with fail
   (refine wp_region_still_tail 10 (by kernel_rfl) (by kernel_rfl) ?_;simp only [List.take_succ_cons,List.take_zero,List.drop_succ_cons,List.drop_zero];(iterate 10 (with_reducible refine wpStill_step (fun K hK=>?_);replace hK:=zH hK;go_simp;with_reducible refine hK.out _ ?_;clear hK K));refine wpStill_nil ?_)
   change wpList _ _ _ _ _ wo.drew
   go_wp2_with fail
   (go_at_call 24;refine (HC.out _ byB).mono ?_;rintro e w1 ⟨rfl,hb_w1⟩;refine kbb (show w1.heap[w.heap.size]?=some (.cells #[.slice (some ⟨b,o,none⟩) sc.actions.length k0,.slice e1 sc.arrivals.length k1,.int .i64 sc.rounds] 31) from (hb_w1.block _ byS).trans byH) (fun p_w1 cp_w1 fp_w1 zp_w1=>?_);refine kbb (show w1.heap[w.heap.size+1]?=some (.cells #[.slice (some ⟨b',o',none⟩) sc.actions.length l0,.slice f1 sc.arrivals.length l1,.int .i64 sc.rounds] 31) from (hb_w1.block _ byS).trans byH) (fun r_w1 cr_w1 fr_w1 zr_w1=>?_);refine armT w hb_w1 (fun h_w1 s_w1 t_w1 hb_w1=>?_);(try simp at t_w1))
   go_wp2_with fail
   go_roundw
   case rel=>exact ⟨i+1,by omega,by go_num,byH,byH,byB⟩
   case measure=>simp [intOf];omega
  ·obtain rfl:i=sc.actions.length:=by omega
   clear hi
   go_wp2_with fail
   go_loopw [6] (fun iv wr=>∃i:Nat,i≤sc.arrivals.length∧iv= .int .i64 i∧wr.heap[w.heap.size]?=some (.cells #[.slice e0 sc.actions.length k0,.slice e1 sc.arrivals.length k1,.int .i64 sc.rounds] 31)∧wr.heap[w.heap.size+1]?=some (.cells #[.slice f0 sc.actions.length l0,.slice f1 sc.arrivals.length l1,.int .i64 sc.rounds] 31)∧Below w.heap.size w wr) (fun iv _=>sc.arrivals.length - (intOf iv).toNat)
   case atStart=>exact ⟨0,Nat.zero_le _,rfl,hp,hr,hbr⟩
   case round=>
    clear hp hr hbr cp fp zp cr fr zr so
    obtain ⟨i,hi,rfl,hp,hr,hbr⟩:=hrel
    obtain ⟨cp,fp,zp⟩:=blk hp
    obtain ⟨cr,fr,zr⟩:=blk hr
    have so:=hbr.size
    obtain ⟨wo,rfl⟩:∃wo:World,wo=wr:=⟨_,rfl⟩
    by_cases hlt:i < sc.arrivals.length
    ·obtain ⟨b,o,rfl,hI,c0,c1⟩:=(hs1.next hB hbr).at_arr hlt
     obtain ⟨b',o',rfl,hI',d0,d1⟩:=(ht1.next hB hbr).at_arr hlt
     have hi0:(0:Int)≤i:=by omega
     have hi1:(i:Int) < sc.arrivals.length:=by omega
     have hbl:b < wo.heap.size:=Nat.lt_of_lt_of_le hI (Nat.le_trans hB so)
     have hbl':b' < wo.heap.size:=Nat.lt_of_lt_of_le hI' (Nat.le_trans hB so)
     have hneq:=fun w=>neqArr (nth sc.arrivals i) (nth sc.arrivals i) w
     rw [show diffT (nth sc.arrivals i) (nth sc.arrivals i)=false by simp [diffT]] at hneq
     have hgd:=guardArr
     go_wp2_with fail
     go_quiet (fail)
     go_wp2_with fail
     go_roundw
     case rel=>exact ⟨i+1,by omega,by go_num,byH,byH,below_drewN hbr _⟩
     case measure=>simp [intOf];omega
    ·obtain rfl:i=sc.arrivals.length:=by omega
     clear hi
     go_wp2_with fail
     go_ret
     exact ⟨ret_bool (by simp),hbr⟩
end Go.Proofs.YtinlmkhlgclbfabDoor
end

section
namespace Go.Proofs.YtinlmkhlgclbfabDoor
open Go.RowKit
set_option maxRecDepth 100000
set_option maxHeartbeats 8000000
theorem refSameDomains (ds:List TDom)(A A':Option Addr)(n n':Nat)(B:Nat)(w:World)(hB:B≤w.heap.size)(hs:Sl cDom (Low B) w A n ds)(ht:Sl cDom (Low B) w A' n' ds):
  Calls Tryd.prog 9 #[.slice A ds.length n,.slice A' ds.length n'] w fun e w'=>e= .returned (.bool true)∧Below w.heap.size w w':=by
 have m0:=Nat.le_trans hs.cap hs.max
 unfold maxLen at m0
 have HS:=zH hs
 have HT:=zH ht
 clear hs ht
 go_enter Tryd.func9,Tryd.ntmps9
 go_wp2_with fail
 go_loopw [5] (fun iv wr=>∃i:Nat,i≤ds.length∧iv= .int .i64 i∧Below w.heap.size w wr) (fun iv _=>ds.length - (intOf iv).toNat)
 case atStart=>exact ⟨0,Nat.zero_le _,rfl,byB⟩
 case round=>
  obtain ⟨i,hi,rfl,hbr⟩:=hrel
  have so:=hbr.size
  by_cases hlt:i < ds.length
  ·have hi0:(0:Int)≤i:=by omega
   have hi1:(i:Int) < ds.length:=by omega
   obtain ⟨b,o,T,rfl,hI,d0,d1,d2,d3,d4,d5,d6,hT⟩:=(HS.out.next hB hbr).at_dom hlt
   obtain ⟨b',o',T',rfl,hI',d0',d1',d2',d3',d4',d5',d6',hT'⟩:=(HT.out.next hB hbr).at_dom hlt
   have hI:=Nat.lt_of_lt_of_le hI hB
   have hI':=Nat.lt_of_lt_of_le hI' hB
   have hbl:b < wr.heap.size:=by omega
   have hbl':b' < wr.heap.size:=by omega
   have HD:=zH (fun W (h:Below wr.heap.size wr W)=>refSameDomain (nth ds i) T T' B W (Nat.le_trans (Nat.le_trans hB so) h.size) (hT.next (Nat.le_trans hB so) h) (hT'.next (Nat.le_trans hB so) h))
   clear hT hT'
   go_wp2_with fail
   go_region_held3 (fun w'=>w'.cell? ⟨b,o+i*7,none⟩=some (.slice T.a0 (nth ds i).jobs.length T.n0)∧w'.cell? ⟨b,o+i*7+1,none⟩=some (.slice T.a1 (nth ds i).released.length T.n1)∧w'.cell? ⟨b,o+i*7+2,none⟩=some (.int .i64 (nth ds i).next)∧
     w'.cell? ⟨b,o+i*7+3,none⟩=some (.slice T.a2 (nth ds i).ins.length T.n2)∧w'.cell? ⟨b,o+i*7+4,none⟩=some (.slice T.a3 (nth ds i).taken.length T.n3)∧w'.cell? ⟨b,o+i*7+5,none⟩=some (.slice T.a4 (nth ds i).outs.length T.n4)∧w'.cell? ⟨b,o+i*7+6,none⟩=some (.slice T.a5 (nth ds i).events.length T.n5)∧
     w'.cell? ⟨b',o'+i*7,none⟩=some (.slice T'.a0 (nth ds i).jobs.length T'.n0)∧w'.cell? ⟨b',o'+i*7+1,none⟩=some (.slice T'.a1 (nth ds i).released.length T'.n1)∧w'.cell? ⟨b',o'+i*7+2,none⟩=some (.int .i64 (nth ds i).next)∧
     w'.cell? ⟨b',o'+i*7+3,none⟩=some (.slice T'.a2 (nth ds i).ins.length T'.n2)∧w'.cell? ⟨b',o'+i*7+4,none⟩=some (.slice T'.a3 (nth ds i).taken.length T'.n3)∧w'.cell? ⟨b',o'+i*7+5,none⟩=some (.slice T'.a4 (nth ds i).outs.length T'.n4)∧w'.cell? ⟨b',o'+i*7+6,none⟩=some (.slice T'.a5 (nth ds i).events.length T'.n5))
    (((try dsimp only);(repeat' apply And.intro)<;>(first|exact (Below.cell (B:=wr.heap.size) (w:=wr) byB (by first|assumption|omega)).trans (by assumption)|go_keep|(simp [go_sem, *];done)))) (first|(go_at_call 11;refine (HD.out _ byB).mono ?_;rintro e w1 ⟨rfl,hb_w1⟩;refine armT w hb_w1 (fun h_w1 s_w1 t_w1 hb_w1=>?_);(try simp at t_w1)))
   all_goals
    go_wp2_with fail
    exact ⟨⟨i+1,by omega,by go_num,byB⟩,by simp [intOf];omega⟩
  ·obtain rfl:i=ds.length:=by omega
   go_wp2_with fail
   go_ret
   exact ⟨rfl,hbr⟩
end Go.Proofs.YtinlmkhlgclbfabDoor
end

section
namespace Go.Proofs.YtinlmkhlgclbfabDoor
open Go.RowKit Go.Deep
def Cod.pair {S T:Type} (a:Cod S) (b:Cod T):Cod (S×T) where
 size:=a.size+b.size
 rel:=fun I w cs x=>∃c1 c2,cs=c1++c2∧a.rel I w c1 x.1∧b.rel I w c2 x.2
 len:=fun {_ _ _ _} ⟨_,_,h,h1,h2⟩=>by rw [h,List.length_append,a.len h1,b.len h2]
 keep:=fun ⟨c1,c2,h,h1,h2⟩ hk=>⟨c1,c2,h,a.keep h1 hk,b.keep h2 hk⟩
 mono:=fun ⟨c1,c2,h,h1,h2⟩ hk=>⟨c1,c2,h,a.mono h1 hk,b.mono h2 hk⟩
def Cod.via {S T:Type} (f:S→T) (c:Cod T):Cod S where
 size:=c.size
 rel:=fun I w cs x=>c.rel I w cs (f x)
 len:=fun h=>c.len h
 keep:=fun h hk=>c.keep h hk
 mono:=fun h hk=>c.mono h hk
def Opens (P:Program) {T:Type} (e:Cod T) (ok:T→Prop) (t:TypeId):Prop:=
 P.cellsOf t=e.size∧∀(H:Type) (enc:TypeId×Value→H) (w:World) (fuel:Nat) (cs:List Value) (x:DataW H×List MemPlace),
  DataW.trod enc P w 0 (fun _=>true) true fuel t cs=some x→(x.1.weights P t).all (· ≤reachBytes)=true→∃y,e.rel (Low w.heap.size) w cs y∧ok y
def okInt (n:Int):Prop:= -9223372036854775808≤n∧n≤9223372036854775807
def okAny {T:Type} (_:T):Prop:=True
def okList {T:Type} (ok:T→Prop) (bytes:Nat) (xs:List T):Prop:=xs.length*bytes≤reachBytes∧∀x∈xs,ok x
theorem okInt_of {n:Int}(h:(Lit.int .i64 n).wf=true):okInt n:=by
 simp [Lit.wf,IntKind.min,IntKind.max,IntKind.signed,IntKind.bits] at h
 exact h
theorem opens_int {P:Program}{t:TypeId}(ht:P.underlying t=some (.int .i64))(hc:P.cellsOf t=1):Opens P cInt okInt t:=by
 refine ⟨hc,fun H enc w fuel cs x h _=>?_⟩
 obtain ⟨n,rfl,rfl,hw⟩:=DataW.trod_int ht h
 exact ⟨n,rfl,okInt_of hw⟩
theorem weightsAll_mem {H:Type}{P:Program}{e:TypeId}{l:List (DataW H)}(h:(DataW.weightsAll P e l).all (· ≤reachBytes)=true):∀d∈l,(d.weights P e).all (· ≤reachBytes)=true:=by
 induction l with
 |nil=>intro d hd;simp at hd
 |cons a l ih=>
  intro d hd
  simp only [DataW.weightsAll,List.all_append,Bool.and_eq_true] at h
  rcases List.mem_cons.1 hd with rfl|hd
  ·exact h.1
  ·exact ih h.2 d hd
theorem opens_slice {P:Program}{T:Type}[Inhabited T]{e:Cod T}{ok:T→Prop}{t el:TypeId}{bytes:Nat}(ht:P.underlying t=some (.slice el))(hc:P.cellsOf t=1)(hb:P.bytesOf el=bytes)(hpos:0 < e.size)(he:Opens P e ok el):
  Opens P e.slice (okList ok bytes) t:=by
 refine ⟨hc,fun H enc w fuel cs x h hsz=>?_⟩
 rcases open_slice ht h with ⟨rfl,rfl⟩|⟨a,len,cap,m,n,D,Pl,rfl,_,hl,hm,hmm,rfl,hx⟩
 ·exact ⟨[],⟨none,0,rfl,Sl.empty _ _ _⟩,by simp [okList]⟩
 ·have hmc:m=cap:=by simpa using hmm
  subst hmc
  simp only [DataW.weights,ht,List.all_cons,List.all_append,Bool.and_eq_true,List.length_map,List.length_range,hb,decide_eq_true_eq] at hsz
  obtain ⟨hs0,hs1,_⟩:=hsz
  have hD:=weightsAll_mem hs1
  rw [he.1] at hx
  obtain ⟨f,hf⟩:=choose_lt (α:=T) (p:=fun i y=>∃cs',w.cells? 0 (a.add (i*e.size)) e.size=some cs'∧e.rel (Low w.heap.size) w cs' y∧ok y) (n:=len) (fun i hi=>by
   obtain ⟨cs',h1,h2⟩:=hx i (by omega)
   obtain ⟨y,h3,h4⟩:=he.2 H enc w n cs' _ h2 (hD _ (List.mem_map.2 ⟨i,List.mem_range.2 hi,rfl⟩))
   exact ⟨y,cs',h1,h3,h4⟩)
  refine ⟨(List.range len).map f,⟨some a,m,by simp,by simpa using hl,hm,(fun h=>by cases h),fun i hi=>?_⟩,?_,?_⟩
  ·have hi':i < len:=by simpa using hi
   obtain ⟨cs',h1,h3,h4⟩:=hf i hi'
   obtain ⟨_,hlen,hcell⟩:=World.cells?_some h1
   obtain ⟨v,hv⟩:∃v,cs'[0]?=some v:=⟨cs'[0]'(by omega),List.getElem?_eq_getElem (by omega)⟩
   have hc0:=(hcell 0 hpos).trans hv
   obtain ⟨cs0,h10,_,_⟩:=hf 0 (by omega)
   obtain ⟨_,hlen0,hcell0⟩:=World.cells?_some h10
   obtain ⟨v0,hv0⟩:∃v,cs0[0]?=some v:=⟨cs0[0]'(by omega),List.getElem?_eq_getElem (by omega)⟩
   have hc00:=(hcell0 0 hpos).trans hv0
   obtain ⟨b,o,spot⟩:=a
   have hspot:spot=none:=by simpa [Addr.add] using World.cell?_spot hc00
   subst hspot
   have hlt:b < w.heap.size:=by
    rw [Go.WideShapes.add_plain,Go.WideShapes.add_plain] at hc0
    unfold World.cell? at hc0
    split at hc0
    ·rename_i heq;exact (Array.getElem?_eq_some_iff.1 heq).1
    ·cases hc0
   refine ⟨b,o,cs',rfl,hlt,by simpa using h3,fun j u hu=>?_⟩
   have hj:j < e.size:=by have:=(List.getElem?_eq_some_iff.1 hu).1;omega
   have:=hcell j hj
   rw [Go.WideShapes.add_plain,Go.WideShapes.add_plain] at this
   exact this.trans hu
  ·simp only [List.length_map,List.length_range]
   exact Nat.le_trans (Nat.mul_le_mul_right _ (by omega)) hs0
  ·intro x hx
   obtain ⟨i,hi,rfl⟩:=List.mem_map.1 hx
   obtain ⟨_,_,_,h4⟩:=hf i (List.mem_range.1 hi)
   exact h4
def OpensF (P:Program) {T:Type} (e:Cod T) (ok:T→Prop) (off:Nat) (ts:List TypeId) (offs:List Nat):Prop:=
 ∀(H:Type) (enc:TypeId×Value→H) (w:World) (fuel:Nat) (cs:List Value) (xs:List (DataW H×List MemPlace)),off+e.size=cs.length→
  xs.length=ts.length→(∀(i t o:Nat),ts[i]?=some t→offs[i]?=some o→DataW.trod enc P w 0 (fun _=>true) true fuel t ((cs.drop o).take (P.cellsOf t))=xs[i]?)→
  (DataW.weightsEach P ts (xs.map (·.1))).all (· ≤reachBytes)=true→∃y,e.rel (Low w.heap.size) w (cs.drop off) y∧ok y
theorem opensF_one {P:Program}{T:Type}{e:Cod T}{ok:T→Prop}{t:TypeId}{off:Nat}(h:Opens P e ok t):OpensF P e ok off [t] [off]:=by
 intro H enc w fuel cs xs hl hx hf hw
 match xs,hx with
 |[x],_=>
  have h1:=hf 0 t off rfl rfl
  simp only [DataW.weightsEach,List.map_cons,List.map_nil,List.append_nil] at hw
  rw [h.1,List.take_of_length_le (by simp;omega)] at h1
  exact h.2 H enc w fuel _ x h1 hw
theorem opensF_cons {P:Program}{S T:Type}{a:Cod S}{e:Cod T}{oka:S→Prop}{ok:T→Prop}{t:TypeId}{off off':Nat}{ts:List TypeId}{offs:List Nat}(h:Opens P a oka t)(h':OpensF P e ok off' ts offs)(ho:off'=off+a.size):
  OpensF P (a.pair e) (fun y=>oka y.1∧ok y.2) off (t::ts) (off::offs):=by
 intro H enc w fuel cs xs hl hx hf hw
 subst ho
 match xs,hx with
 |x::xs,hx=>
  have h1:=hf 0 t off rfl rfl
  simp only [DataW.weightsEach,List.map_cons,List.all_append,Bool.and_eq_true] at hw
  rw [h.1] at h1
  obtain ⟨y1,r1,k1⟩:=h.2 H enc w fuel _ x h1 hw.1
  obtain ⟨y2,r2,k2⟩:=h' H enc w fuel cs xs (by simp [Cod.pair] at hl;omega) (by simpa using hx) (fun i t' o' ht ho=>by simpa using hf (i+1) t' o' (by simpa using ht) (by simpa using ho)) hw.2
  refine ⟨(y1,y2),⟨_,_,?_,r1,r2⟩,k1,k2⟩
  rw [← List.drop_drop,List.take_append_drop]
theorem opens_struct {P:Program}{S T:Type}{e:Cod T}{ok:T→Prop}{ok':S→Prop}{t:TypeId}{fs:Array Field}(f:S→T)(g:T→S)(hfg:∀y,f (g y)=y)(ht:P.underlying t=some (.struct fs))(hc:P.cellsOf t=e.size)
  (h:OpensF P e ok 0 (fs.toList.map (·.type)) (fs.toList.map (·.offset))) (hok:∀y,ok y→ok' (g y)):Opens P (e.via f) ok' t:=by
 refine ⟨hc,fun H enc w fuel cs x hx hsz=>?_⟩
 obtain ⟨xs,n,rfl,rfl,hl,hlen,hf⟩:=DataW.trod_struct ht hx
 simp only [DataW.weights,ht] at hsz
 obtain ⟨y,hr,hy⟩:=h H enc w n cs xs (by omega) (by simpa using hlen) (fun i t o h1 h2=>by
  rw [List.getElem?_map,Option.map_eq_some_iff] at h1 h2
  obtain ⟨F,hF,rfl⟩:=h1
  obtain ⟨F',hF',rfl⟩:=h2
  rw [hF] at hF'
  cases hF'
  exact hf i F (by simpa using hF)) hsz
 refine ⟨g y,?_,hok y hy⟩
 show e.rel _ _ _ (f (g y))
 rw [hfg]
 simpa using hr
theorem opens_arg {P:Program}{T:Type}{e:Cod T}{ok:T→Prop}{t:TypeId}(h:Opens P e ok t){H:Type}{enc:TypeId×Value→H}{w:World}{v:Value}{d:DataW H}{p:List MemPlace}(h0:DataW.Trod enc P w 0 (fun _=>true) true t v d p)
  (hw:(d.weights P t).all (· ≤reachBytes)=true):∃y,e.rel (Low w.heap.size) w v.cells.toList y∧ok y:=by
 obtain ⟨fuel,hf⟩:=h0
 exact h.2 H enc w fuel _ _ hf hw
end Go.Proofs.YtinlmkhlgclbfabDoor
end
