/- ConfR -/
import Derived.Test.YtinlmkhlgclbfabWv13
namespace Go.Proofs.Ytinlmkhlgclbfab
open Go.RowKit
set_option maxRecDepth 100000
set_option maxHeartbeats 4000000
theorem refCheckConfig (c:TCfg)(S:TCfgS)(B:Nat)(w:World)(hB:B≤w.heap.size)(hs:TCfg.At (Low B) w c S):
  Calls Try.prog 12 #[.agg #[.int .i64 c.sets,.int .i64 c.ways,.int .i64 c.doms,.int .i64 c.pad,.int .i64 c.quantum,.slice S.a0 c.slots.length S.n0,.slice S.a1 c.owners.length S.n1,.slice S.a2 c.chans.length S.n2,.slice S.a3 c.tasks.length S.n3]] w fun e w'=>e= .returned (.int .i64 (checkConfig c))∧Below w.heap.size w w':=by
 obtain ⟨m0,m1,m2,m3⟩:=cfg_len hs
 have RX:=zH (fun h:headErr c≠0=>show checkConfig c=headErr c by unfold checkConfig thenE;rw [if_neg h])
 cases b1:inB 1 c.sets 4
 ·have R:=zH (show headErr c=3 by unfold headErr;simp [b1])
  go_enter Try.func12,Try.ntmps12
  go_wp2_with (go_at_call 48;refine (refBetween _ _ _ _).mono ?_;rintro e w' ⟨rfl,rfl⟩)
  go_ret
  exact ⟨ret_int ((RX.out (by rw [R.out];decide)).trans R.out).symm,byB⟩
 cases b2:inB 1 c.ways 3
 ·have R:=zH (show headErr c=3 by unfold headErr;simp [b2])
  go_enter Try.func12,Try.ntmps12
  go_wp2_with (go_at_call 48;refine (refBetween _ _ _ _).mono ?_;rintro e w' ⟨rfl,rfl⟩)
  go_ret
  exact ⟨ret_int ((RX.out (by rw [R.out];decide)).trans R.out).symm,byB⟩
 cases b3:inB 1 c.doms 4
 ·have R:=zH (show headErr c=3 by unfold headErr;simp [b3])
  go_enter Try.func12,Try.ntmps12
  go_wp2_with (go_at_call 48;refine (refBetween _ _ _ _).mono ?_;rintro e w' ⟨rfl,rfl⟩)
  go_ret
  exact ⟨ret_int ((RX.out (by rw [R.out];decide)).trans R.out).symm,byB⟩
 cases b4:inB 1 c.quantum 100
 ·have R:=zH (show headErr c=3 by unfold headErr;simp [b4])
  go_enter Try.func12,Try.ntmps12
  go_wp2_with (go_at_call 48;refine (refBetween _ _ _ _).mono ?_;rintro e w' ⟨rfl,rfl⟩)
  go_ret
  exact ⟨ret_int ((RX.out (by rw [R.out];decide)).trans R.out).symm,byB⟩
 obtain ⟨x1,x2,x3⟩:=pad_wraps (inB_true.1 b1) (inB_true.1 b2)
 have R0:=zH (show headErr c=if !inB (2+5*c.sets*c.ways) c.pad 99 then 4
  else if !inB 1 c.slots.length 6||decide (4 < c.owners.length)||decide (4 < c.chans.length)||decide (6 < c.tasks.length) then 2 else 0 by unfold headErr;rw [if_neg (by simp [b1,b2,b3,b4])])
 cases b5:inB (2+5*c.sets*c.ways) c.pad 99
 ·have R:=zH (show headErr c=4 by rw [R0.out,if_pos (by simp [b5])])
  go_enter Try.func12,Try.ntmps12
  go_wp2_with (go_at_call 48;refine (refBetween _ _ _ _).mono ?_;rintro e w' ⟨rfl,rfl⟩)
  go_ret
  exact ⟨ret_int ((RX.out (by rw [R.out];decide)).trans R.out).symm,byB⟩
 have R1:=zH (show headErr c=if !inB 1 c.slots.length 6||decide (4 < c.owners.length)||decide (4 < c.chans.length)||decide (6 < c.tasks.length) then 2 else 0 by rw [R0.out,if_neg (by simp [b5])])
 cases b6:inB 1 c.slots.length 6
 ·have R:=zH (show headErr c=2 by rw [R1.out,if_pos (by simp [b6])])
  go_enter Try.func12,Try.ntmps12
  go_wp2_with (go_at_call 48;refine (refBetween _ _ _ _).mono ?_;rintro e w' ⟨rfl,rfl⟩)
  go_ret
  exact ⟨ret_int ((RX.out (by rw [R.out];decide)).trans R.out).symm,byB⟩
 cases b7:decide (4 < (c.owners.length:Int))
 case true=>
  have R:=zH (show headErr c=2 by rw [R1.out,if_pos (by simp at b7;simp;omega)])
  go_enter Try.func12,Try.ntmps12
  go_wp2_with (go_at_call 48;refine (refBetween _ _ _ _).mono ?_;rintro e w' ⟨rfl,rfl⟩)
  go_ret
  exact ⟨ret_int ((RX.out (by rw [R.out];decide)).trans R.out).symm,byB⟩
 cases b8:decide (4 < (c.chans.length:Int))
 case true=>
  have R:=zH (show headErr c=2 by rw [R1.out,if_pos (by simp at b8;simp;omega)])
  go_enter Try.func12,Try.ntmps12
  go_wp2_with (go_at_call 48;refine (refBetween _ _ _ _).mono ?_;rintro e w' ⟨rfl,rfl⟩)
  go_ret
  exact ⟨ret_int ((RX.out (by rw [R.out];decide)).trans R.out).symm,byB⟩
 cases b9:decide (6 < (c.tasks.length:Int))
 case true=>
  have R:=zH (show headErr c=2 by rw [R1.out,if_pos (by simp at b9;simp;omega)])
  go_enter Try.func12,Try.ntmps12
  go_wp2_with (go_at_call 48;refine (refBetween _ _ _ _).mono ?_;rintro e w' ⟨rfl,rfl⟩)
  go_ret
  exact ⟨ret_int ((RX.out (by rw [R.out];decide)).trans R.out).symm,byB⟩
 have R2:=show headErr c=0 by rw [R1.out,if_neg (by simp at b7 b8 b9;simp [b6];omega)]
 obtain ⟨h1,h4⟩:=inB_true.1 b3
 have HD:=zH (fun S d W=>refIsDomain c S d h1 h4 W)
 have Q0:=show checkConfig c=thenE (slotsErr c) (thenE (ownersErr c) (thenE (chansErr c) (tasksErr c))) by unfold checkConfig;rw [R2];rfl
 have Q1:=zH (fun i hi (hq:∀j,j < i→slotErr c.doms (nth c.slots j)=0) (h:slotErr c.doms (nth c.slots i)≠0)=>show checkConfig c=slotErr c.doms (nth c.slots i) by
  have e:slotsErr c=slotErr c.doms (nth c.slots i):=firstE_hit hi hq h
  rw [Q0];unfold thenE;rw [if_neg (by rw [e];exact h),e])
 have Q2:=zH (fun (hq:∀j,j < c.slots.length→slotErr c.doms (nth c.slots j)=0)=>show checkConfig c=thenE (ownersErr c) (thenE (chansErr c) (tasksErr c)) by
  have e:slotsErr c=0:=firstE_none hq
  rw [Q0,e];rfl)
 have Q3:=zH (fun i (hi:i < c.owners.length) (h:isDom c.doms (nth c.owners i)=false)=>show ownersErr c=5 by
  unfold ownersErr;rw [if_pos (anyI_true.2 ⟨i,hi,by simp [h]⟩)])
 have Q4:=zH (fun (h:∀i,i < c.owners.length→isDom c.doms (nth c.owners i)=true)=>show ownersErr c=0 by
  unfold ownersErr;rw [if_neg (by rw [Bool.not_eq_true,anyI_false];intro j hj;simp [h j hj])])
 have Q5:=zH (fun i hi (hq:∀j,j < i→chanErr c.doms c.chans j=0) (h:chanErr c.doms c.chans i≠0)=>show thenE (chansErr c) (tasksErr c)=chanErr c.doms c.chans i by
  have e:chansErr c=chanErr c.doms c.chans i:=firstE_hit hi hq h
  unfold thenE;rw [if_neg (by rw [e];exact h),e])
 have Q6:=zH (fun (hq:∀j,j < c.chans.length→chanErr c.doms c.chans j=0)=>show thenE (chansErr c) (tasksErr c)=tasksErr c by
  have e:chansErr c=0:=firstE_none hq
  unfold thenE;rw [e];rfl)
 have Q7:=zH (fun i hi (hq:∀j,j < i→taskErr c.doms (nth c.tasks j)=0) (h:taskErr c.doms (nth c.tasks i)≠0)=>show tasksErr c=taskErr c.doms (nth c.tasks i) from firstE_hit hi hq h)
 have Q8:=zH (fun (hq:∀j,j < c.tasks.length→taskErr c.doms (nth c.tasks j)=0)=>show tasksErr c=0 from firstE_none hq)
 clear RX R0 R1 R2 Q0
 (obtain ⟨a0,n0,a1,n1,a2,n2,a3,n3⟩:=S;obtain ⟨hs0,hs1,hs2,hs3⟩:=hs;dsimp only at hs0 hs1 hs2 hs3⊢)
 go_enter Try.func12,Try.ntmps12
 go_wp2_with (go_at_call 48;refine (refBetween _ _ _ _).mono ?_;rintro e w' ⟨rfl,rfl⟩)
 go_loopw [3] (fun iv wr=>∃i:Nat,i≤c.slots.length∧iv= .int .i64 i∧Hid (∀j,j < i→slotErr c.doms (nth c.slots j)=0)∧wr.heap[w.heap.size]?=some (.cells #[.int .i64 c.sets,.int .i64 c.ways,.int .i64 c.doms,.int .i64 c.pad,.int .i64 c.quantum,.slice a0 c.slots.length n0,.slice a1 c.owners.length n1,.slice a2 c.chans.length n2,.slice a3 c.tasks.length n3] 27)∧Below w.heap.size w wr) (fun iv _=>c.slots.length - (intOf iv).toNat)
 case atStart=>exact ⟨0,Nat.zero_le _,rfl,(fun j hj=>by omega),byH,byB⟩
 case round=>
  obtain ⟨i,hi,rfl,hq,hp,hbr⟩:=hrel
  obtain ⟨cp,fp,zp⟩:=blk hp
  have so:=hbr.size
  by_cases hlt:i < c.slots.length
  ·obtain ⟨b,o,rfl,hI,hc0,hc1⟩:=(hs0.next hB hbr).at_slot hlt
   have hbl:b < w.heap.size:=Nat.lt_of_lt_of_le hI hB
   have hbr':b < wr.heap.size:=by omega
   have hi0:(0:Int)≤i:=by omega
   have hi1:(i:Int) < c.slots.length:=by omega
   cases e1:isDom c.doms (nth c.slots i).dom
   ·have R:=zH ((Q1.out i hlt hq.out (by simp [slotErr,e1])).trans (show slotErr c.doms (nth c.slots i)=5 by simp [slotErr,e1]))
    go_wp2_with fail
    go_region_held3 (fun w'=>(∀oo,w'.cell? ⟨w.heap.size,oo,none⟩=#[.int .i64 c.sets,.int .i64 c.ways,.int .i64 c.doms,.int .i64 c.pad,.int .i64 c.quantum,.slice (some ⟨b,o,none⟩) c.slots.length n0,.slice a1 c.owners.length n1,.slice a2 c.chans.length n2,.slice a3 c.tasks.length n3][oo]?)∧w'.cell? ⟨b,o+i*2,none⟩=some (.int .i64 (nth c.slots i).dom)) (((try dsimp only);(repeat' apply And.intro)<;>(first|exact fun oo=>(Below.cell (B:=wr.heap.size) (w:=wr) byB (by first|assumption|omega)).trans (cp oo)|exact (Below.cell (B:=wr.heap.size) (w:=wr) byB (by first|assumption|omega)).trans (by assumption)|go_keep|(simp [go_sem, *];done))))
     (first|(go_at_call 40;refine (HD.out ⟨_,_,_,_,_,_,_,_⟩ _ _).mono ?_;rintro e w1 ⟨rfl,hb1⟩))
    all_goals
     go_wp2_with fail
     go_ret
     exact ⟨ret_int R.out.symm,byB⟩
   ·cases e2:inB 100 (nth c.slots i).len 1000
    all_goals
     have hc1w:w.cell? ⟨b,o+i*2+1,none⟩=some (.int .i64 (nth c.slots i).len):=(hbr.cell (p:=⟨b,o+i*2+1,none⟩) hbl).symm.trans hc1
    ·have R:=zH ((Q1.out i hlt hq.out (by simp [slotErr,e1,e2])).trans (show slotErr c.doms (nth c.slots i)=3 by simp [slotErr,e1,e2]))
     go_wp2_with fail
     go_region_held3 (fun w'=>(∀oo,w'.cell? ⟨w.heap.size,oo,none⟩=#[.int .i64 c.sets,.int .i64 c.ways,.int .i64 c.doms,.int .i64 c.pad,.int .i64 c.quantum,.slice (some ⟨b,o,none⟩) c.slots.length n0,.slice a1 c.owners.length n1,.slice a2 c.chans.length n2,.slice a3 c.tasks.length n3][oo]?)∧w'.cell? ⟨b,o+i*2,none⟩=some (.int .i64 (nth c.slots i).dom)) (((try dsimp only);(repeat' apply And.intro)<;>(first|exact fun oo=>(Below.cell (B:=wr.heap.size) (w:=wr) byB (by first|assumption|omega)).trans (cp oo)|exact (Below.cell (B:=wr.heap.size) (w:=wr) byB (by first|assumption|omega)).trans (by assumption)|go_keep|(simp [go_sem, *];done))))
      (first|(go_at_call 40;refine (HD.out ⟨_,_,_,_,_,_,_,_⟩ _ _).mono ?_;rintro e w1 ⟨rfl,hb_w1⟩;refine kbb (show w1.heap[w.heap.size]?=some (.cells #[.int .i64 c.sets,.int .i64 c.ways,.int .i64 c.doms,.int .i64 c.pad,.int .i64 c.quantum,.slice (some ⟨b,o,none⟩) c.slots.length n0,.slice a1 c.owners.length n1,.slice a2 c.chans.length n2,.slice a3 c.tasks.length n3] 27) from (hb_w1.block _ byS).trans byH) (fun p_w1 cp_w1 fp_w1 zp_w1=>?_);refine armT w hb_w1 (fun h_w1 s_w1 t_w1 hb_w1=>?_);(try simp at t_w1)))
     all_goals
      have k1:=(h_w1.cell (p:=⟨b,o+i*2+1,none⟩) hbl).trans hc1w
      go_wp2_with (go_at_call 48;refine (refBetween _ _ _ _).mono ?_;rintro e w' ⟨rfl,rfl⟩)
      go_ret
      exact ⟨ret_int R.out.symm,byB⟩
    ·have R:=zH (show slotErr c.doms (nth c.slots i)=0 by simp [slotErr,e1,e2])
     go_wp2_with fail
     go_region_held3 (fun w'=>(∀oo,w'.cell? ⟨w.heap.size,oo,none⟩=#[.int .i64 c.sets,.int .i64 c.ways,.int .i64 c.doms,.int .i64 c.pad,.int .i64 c.quantum,.slice (some ⟨b,o,none⟩) c.slots.length n0,.slice a1 c.owners.length n1,.slice a2 c.chans.length n2,.slice a3 c.tasks.length n3][oo]?)∧w'.cell? ⟨b,o+i*2,none⟩=some (.int .i64 (nth c.slots i).dom)) (((try dsimp only);(repeat' apply And.intro)<;>(first|exact fun oo=>(Below.cell (B:=wr.heap.size) (w:=wr) byB (by first|assumption|omega)).trans (cp oo)|exact (Below.cell (B:=wr.heap.size) (w:=wr) byB (by first|assumption|omega)).trans (by assumption)|go_keep|(simp [go_sem, *];done))))
      (first|(go_at_call 40;refine (HD.out ⟨_,_,_,_,_,_,_,_⟩ _ _).mono ?_;rintro e w1 ⟨rfl,hb_w1⟩;refine kbb (show w1.heap[w.heap.size]?=some (.cells #[.int .i64 c.sets,.int .i64 c.ways,.int .i64 c.doms,.int .i64 c.pad,.int .i64 c.quantum,.slice (some ⟨b,o,none⟩) c.slots.length n0,.slice a1 c.owners.length n1,.slice a2 c.chans.length n2,.slice a3 c.tasks.length n3] 27) from (hb_w1.block _ byS).trans byH) (fun p_w1 cp_w1 fp_w1 zp_w1=>?_);refine armT w hb_w1 (fun h_w1 s_w1 t_w1 hb_w1=>?_);(try simp at t_w1)))
     all_goals
      have k1:=(h_w1.cell (p:=⟨b,o+i*2+1,none⟩) hbl).trans hc1w
      go_wp2_with (go_at_call 48;refine (refBetween _ _ _ _).mono ?_;rintro e w' ⟨rfl,rfl⟩)
      go_roundw
      case rel=>exact ⟨i+1,by omega,by go_num,(fun j hj=>by
       by_cases e:j=i
       ·subst e;exact R.out
       ·exact hq.out j (by omega)),byH,byB⟩
      case measure=>simp [intOf];omega
  ·obtain rfl:i=c.slots.length:=by omega
   have RA:=zH (Q2.out hq.out)
   clear hq Q1 Q2
   go_wp2_with fail
   go_loopw [4] (fun iv wr=>∃i:Nat,i≤c.owners.length∧iv= .int .i64 i∧Hid (∀j,j < i→isDom c.doms (nth c.owners j)=true)∧wr.heap[w.heap.size]?=some (.cells #[.int .i64 c.sets,.int .i64 c.ways,.int .i64 c.doms,.int .i64 c.pad,.int .i64 c.quantum,.slice a0 c.slots.length n0,.slice a1 c.owners.length n1,.slice a2 c.chans.length n2,.slice a3 c.tasks.length n3] 27)∧Below w.heap.size w wr) (fun iv _=>c.owners.length - (intOf iv).toNat)
   case atStart=>exact ⟨0,Nat.zero_le _,rfl,(fun j hj=>by omega),hp,hbr⟩
   case round=>
    clear hp hbr cp fp zp so
    obtain ⟨i,hi,rfl,hq,hp,hbr⟩:=hrel
    obtain ⟨cp,fp,zp⟩:=blk hp
    have so:=hbr.size
    by_cases hlt:i < c.owners.length
    ·obtain ⟨b,o,rfl,hI,hc0⟩:=(hs1.next hB hbr).at_int hlt
     have hbl:b < w.heap.size:=Nat.lt_of_lt_of_le hI hB
     have hbr':b < wr.heap.size:=by omega
     have hi0:(0:Int)≤i:=by omega
     have hi1:(i:Int) < c.owners.length:=by omega
     cases e1:isDom c.doms (nth c.owners i)
     ·have R:=zH (RA.out.trans (show thenE (ownersErr c) (thenE (chansErr c) (tasksErr c))=5 by rw [Q3.out i hlt e1];rfl))
      go_wp2_with fail
      go_region_held3 (fun w'=>(∀oo,w'.cell? ⟨w.heap.size,oo,none⟩=#[.int .i64 c.sets,.int .i64 c.ways,.int .i64 c.doms,.int .i64 c.pad,.int .i64 c.quantum,.slice a0 c.slots.length n0,.slice (some ⟨b,o,none⟩) c.owners.length n1,.slice a2 c.chans.length n2,.slice a3 c.tasks.length n3][oo]?)∧w'.cell? ⟨b,o+i,none⟩=some (.int .i64 (nth c.owners i))) (((try dsimp only);(repeat' apply And.intro)<;>(first|exact fun oo=>(Below.cell (B:=wr.heap.size) (w:=wr) byB (by first|assumption|omega)).trans (cp oo)|exact (Below.cell (B:=wr.heap.size) (w:=wr) byB (by first|assumption|omega)).trans (by assumption)|go_keep|(simp [go_sem, *];done))))
       (first|(go_at_call 40;refine (HD.out ⟨_,_,_,_,_,_,_,_⟩ _ _).mono ?_;rintro e w1 ⟨rfl,hb1⟩))
      all_goals
       go_wp2_with fail
       go_ret
       exact ⟨ret_int R.out.symm,byB⟩
     ·have R:=zH e1
      go_wp2_with fail
      go_region_held3 (fun w'=>(∀oo,w'.cell? ⟨w.heap.size,oo,none⟩=#[.int .i64 c.sets,.int .i64 c.ways,.int .i64 c.doms,.int .i64 c.pad,.int .i64 c.quantum,.slice a0 c.slots.length n0,.slice (some ⟨b,o,none⟩) c.owners.length n1,.slice a2 c.chans.length n2,.slice a3 c.tasks.length n3][oo]?)∧w'.cell? ⟨b,o+i,none⟩=some (.int .i64 (nth c.owners i))) (((try dsimp only);(repeat' apply And.intro)<;>(first|exact fun oo=>(Below.cell (B:=wr.heap.size) (w:=wr) byB (by first|assumption|omega)).trans (cp oo)|exact (Below.cell (B:=wr.heap.size) (w:=wr) byB (by first|assumption|omega)).trans (by assumption)|go_keep|(simp [go_sem, *];done))))
       (first|(go_at_call 40;refine (HD.out ⟨_,_,_,_,_,_,_,_⟩ _ _).mono ?_;rintro e w1 ⟨rfl,hb_w1⟩;refine kbb (show w1.heap[w.heap.size]?=some (.cells #[.int .i64 c.sets,.int .i64 c.ways,.int .i64 c.doms,.int .i64 c.pad,.int .i64 c.quantum,.slice a0 c.slots.length n0,.slice (some ⟨b,o,none⟩) c.owners.length n1,.slice a2 c.chans.length n2,.slice a3 c.tasks.length n3] 27) from (hb_w1.block _ byS).trans byH) (fun p_w1 cp_w1 fp_w1 zp_w1=>?_);refine armT w hb_w1 (fun h_w1 s_w1 t_w1 hb_w1=>?_);(try simp at t_w1)))
      all_goals
       go_wp2_with fail
       go_roundw
       case rel=>exact ⟨i+1,by omega,by go_num,(fun j hj=>by
        by_cases e:j=i
        ·subst e;exact R.out
        ·exact hq.out j (by omega)),byH,byB⟩
       case measure=>simp [intOf];omega
    ·obtain rfl:i=c.owners.length:=by omega
     have RB:=zH (show checkConfig c=thenE (chansErr c) (tasksErr c) by rw [RA.out,Q4.out hq.out];rfl)
     clear hq Q3 Q4 RA
     go_wp2_with fail
     go_loopw [5] (fun iv wr=>∃i:Nat,i≤c.chans.length∧iv= .int .i64 i∧Hid (∀j,j < i→chanErr c.doms c.chans j=0)∧wr.heap[w.heap.size]?=some (.cells #[.int .i64 c.sets,.int .i64 c.ways,.int .i64 c.doms,.int .i64 c.pad,.int .i64 c.quantum,.slice a0 c.slots.length n0,.slice a1 c.owners.length n1,.slice a2 c.chans.length n2,.slice a3 c.tasks.length n3] 27)∧Below w.heap.size w wr) (fun iv _=>c.chans.length - (intOf iv).toNat)
     case atStart=>exact ⟨0,Nat.zero_le _,rfl,(fun j hj=>by omega),hp,hbr⟩
     case round=>
      clear hp hbr cp fp zp so
      obtain ⟨i,hi,rfl,hq,hp,hbr⟩:=hrel
      obtain ⟨cp,fp,zp⟩:=blk hp
      have so:=hbr.size
      by_cases hlt:i < c.chans.length
      ·obtain ⟨b,o,rfl,hI,hc0,hc1,hc2⟩:=(hs2.next hB hbr).at_chan hlt
       have hbl:b < w.heap.size:=Nat.lt_of_lt_of_le hI hB
       have hbr':b < wr.heap.size:=by omega
       have hi0:(0:Int)≤i:=by omega
       have hi1:(i:Int) < c.chans.length:=by omega
       cases e1:isDom c.doms (nth c.chans i).src
       ·have R:=zH (show chanErr c.doms c.chans i=5 by unfold chanErr;simp [e1])
        have R:=zH (RB.out.trans ((Q5.out i hlt hq.out (by rw [R.out];decide)).trans R.out))
        go_wp2_with (go_at_call 40;refine (HD.out ⟨_,_,_,_,_,_,_,_⟩ _ _).mono ?_;rintro e w1 ⟨rfl,hb1⟩)
        go_ret
        exact ⟨ret_int R.out.symm,byB⟩
       cases e2:isDom c.doms (nth c.chans i).dst
       ·have R:=zH (show chanErr c.doms c.chans i=5 by unfold chanErr;simp [e2])
        have R:=zH (RB.out.trans ((Q5.out i hlt hq.out (by rw [R.out];decide)).trans R.out))
        go_wp2_with fail
        (go_at_call 40;refine (HD.out ⟨_,_,_,_,_,_,_,_⟩ _ _).mono ?_;rintro e w1 ⟨rfl,hb_w1⟩;refine kbb (show w1.heap[wr.heap.size]?=some (.cells #[.int .i64 (nth c.chans i).src,.int .i64 (nth c.chans i).dst,.int .i64 (nth c.chans i).size] 101) from (hb_w1.block _ byS).trans byH) (fun x_w1 cx_w1 fx_w1 zx_w1=>?_);refine kbb (show w1.heap[w.heap.size]?=some (.cells #[.int .i64 c.sets,.int .i64 c.ways,.int .i64 c.doms,.int .i64 c.pad,.int .i64 c.quantum,.slice a0 c.slots.length n0,.slice a1 c.owners.length n1,.slice (some ⟨b,o,none⟩) c.chans.length n2,.slice a3 c.tasks.length n3] 27) from (hb_w1.block _ byS).trans byH) (fun p_w1 cp_w1 fp_w1 zp_w1=>?_);refine armT w hb_w1 (fun h_w1 s_w1 t_w1 hb_w1=>?_);(try simp at t_w1))
        go_wp2_with (go_at_call 40;refine (HD.out ⟨_,_,_,_,_,_,_,_⟩ _ _).mono ?_;rintro e w2 ⟨rfl,hb2⟩)
        go_ret
        exact ⟨ret_int R.out.symm,byB⟩
       by_cases e3:(nth c.chans i).src=(nth c.chans i).dst
       ·have R:=zH (show chanErr c.doms c.chans i=1 by unfold chanErr;rw [if_neg (by simp [e1,e2]),if_pos e3])
        have R:=zH (RB.out.trans ((Q5.out i hlt hq.out (by rw [R.out];decide)).trans R.out))
        have b3:((nth c.chans i).src==(nth c.chans i).dst)=true:=by simp [e3]
        clear e3
        go_wp2_with fail
        (go_at_call 40;refine (HD.out ⟨_,_,_,_,_,_,_,_⟩ _ _).mono ?_;rintro e w1 ⟨rfl,hb_w1⟩;refine kbb (show w1.heap[wr.heap.size]?=some (.cells #[.int .i64 (nth c.chans i).src,.int .i64 (nth c.chans i).dst,.int .i64 (nth c.chans i).size] 101) from (hb_w1.block _ byS).trans byH) (fun x_w1 cx_w1 fx_w1 zx_w1=>?_);refine kbb (show w1.heap[w.heap.size]?=some (.cells #[.int .i64 c.sets,.int .i64 c.ways,.int .i64 c.doms,.int .i64 c.pad,.int .i64 c.quantum,.slice a0 c.slots.length n0,.slice a1 c.owners.length n1,.slice (some ⟨b,o,none⟩) c.chans.length n2,.slice a3 c.tasks.length n3] 27) from (hb_w1.block _ byS).trans byH) (fun p_w1 cp_w1 fp_w1 zp_w1=>?_);refine armT w hb_w1 (fun h_w1 s_w1 t_w1 hb_w1=>?_);(try simp at t_w1))
        go_wp2_with fail
        (go_at_call 40;refine (HD.out ⟨_,_,_,_,_,_,_,_⟩ _ _).mono ?_;rintro e w2 ⟨rfl,hb_w2⟩;refine kbb (kb x_w1 hb_w2) (fun x_w2 cx_w2 fx_w2 zx_w2=>?_);refine kbb (kb p_w1 hb_w2) (fun p_w2 cp_w2 fp_w2 zp_w2=>?_);refine armT w hb_w2 (fun h_w2 s_w2 t_w2 hb_w2=>?_);(try simp at t_w2);clear x_w1 cx_w1 fx_w1 p_w1 cp_w1 fp_w1)
        go_wp2_with fail
        go_ret
        exact ⟨ret_int R.out.symm,byB⟩
       have b3:((nth c.chans i).src==(nth c.chans i).dst)=false:=by simp [e3]
       cases e4:inB 1 (nth c.chans i).size 4
       ·have R:=zH (show chanErr c.doms c.chans i=3 by unfold chanErr;rw [if_neg (by simp [e1,e2]),if_neg e3,if_pos (by simp [e4])])
        have R:=zH (RB.out.trans ((Q5.out i hlt hq.out (by rw [R.out];decide)).trans R.out))
        clear e3
        go_wp2_with fail
        (go_at_call 40;refine (HD.out ⟨_,_,_,_,_,_,_,_⟩ _ _).mono ?_;rintro e w1 ⟨rfl,hb_w1⟩;refine kbb (show w1.heap[wr.heap.size]?=some (.cells #[.int .i64 (nth c.chans i).src,.int .i64 (nth c.chans i).dst,.int .i64 (nth c.chans i).size] 101) from (hb_w1.block _ byS).trans byH) (fun x_w1 cx_w1 fx_w1 zx_w1=>?_);refine kbb (show w1.heap[w.heap.size]?=some (.cells #[.int .i64 c.sets,.int .i64 c.ways,.int .i64 c.doms,.int .i64 c.pad,.int .i64 c.quantum,.slice a0 c.slots.length n0,.slice a1 c.owners.length n1,.slice (some ⟨b,o,none⟩) c.chans.length n2,.slice a3 c.tasks.length n3] 27) from (hb_w1.block _ byS).trans byH) (fun p_w1 cp_w1 fp_w1 zp_w1=>?_);refine armT w hb_w1 (fun h_w1 s_w1 t_w1 hb_w1=>?_);(try simp at t_w1))
        go_wp2_with fail
        (go_at_call 40;refine (HD.out ⟨_,_,_,_,_,_,_,_⟩ _ _).mono ?_;rintro e w2 ⟨rfl,hb_w2⟩;refine kbb (kb x_w1 hb_w2) (fun x_w2 cx_w2 fx_w2 zx_w2=>?_);refine kbb (kb p_w1 hb_w2) (fun p_w2 cp_w2 fp_w2 zp_w2=>?_);refine armT w hb_w2 (fun h_w2 s_w2 t_w2 hb_w2=>?_);(try simp at t_w2);clear x_w1 cx_w1 fx_w1 p_w1 cp_w1 fp_w1)
        go_wp2_with (go_at_call 48;refine (refBetween _ _ _ _).mono ?_;rintro e w' ⟨rfl,rfl⟩)
        go_ret
        exact ⟨ret_int R.out.symm,byB⟩
       have R0:=zH (show chanErr c.doms c.chans i=if anyI i (sameChan c.chans i) then 6 else 0 by unfold chanErr;rw [if_neg (by simp [e1,e2]),if_neg e3,if_neg (by simp [e4])])
       have R6:=zH (fun k (hk:k < i) (h:sameChan c.chans i k=true)=>show checkConfig c=6 by
        have e:chanErr c.doms c.chans i=6:=by rw [R0.out,if_pos (anyI_true.2 ⟨k,hk,h⟩)]
        rw [RB.out,Q5.out i hlt hq.out (by rw [e];decide),e])
       clear e3
       obtain ⟨wo,rfl⟩:∃wo:World,wo=wr:=⟨_,rfl⟩
       go_wp2_with fail
       (go_at_call 40;refine (HD.out ⟨_,_,_,_,_,_,_,_⟩ _ _).mono ?_;rintro e w1 ⟨rfl,hb_w1⟩;refine kbb (show w1.heap[wo.heap.size]?=some (.cells #[.int .i64 (nth c.chans i).src,.int .i64 (nth c.chans i).dst,.int .i64 (nth c.chans i).size] 101) from (hb_w1.block _ byS).trans byH) (fun x_w1 cx_w1 fx_w1 zx_w1=>?_);refine kbb (show w1.heap[w.heap.size]?=some (.cells #[.int .i64 c.sets,.int .i64 c.ways,.int .i64 c.doms,.int .i64 c.pad,.int .i64 c.quantum,.slice a0 c.slots.length n0,.slice a1 c.owners.length n1,.slice (some ⟨b,o,none⟩) c.chans.length n2,.slice a3 c.tasks.length n3] 27) from (hb_w1.block _ byS).trans byH) (fun p_w1 cp_w1 fp_w1 zp_w1=>?_);refine armT w hb_w1 (fun h_w1 s_w1 t_w1 hb_w1=>?_);(try simp at t_w1))
       go_wp2_with fail
       (go_at_call 40;refine (HD.out ⟨_,_,_,_,_,_,_,_⟩ _ _).mono ?_;rintro e w2 ⟨rfl,hb_w2⟩;refine kbb (kb x_w1 hb_w2) (fun x_w2 cx_w2 fx_w2 zx_w2=>?_);refine kbb (kb p_w1 hb_w2) (fun p_w2 cp_w2 fp_w2 zp_w2=>?_);refine armT w hb_w2 (fun h_w2 s_w2 t_w2 hb_w2=>?_);(try simp at t_w2);clear x_w1 cx_w1 fx_w1 p_w1 cp_w1 fp_w1)
       go_wp2_with (go_at_call 48;refine (refBetween _ _ _ _).mono ?_;rintro e w' ⟨rfl,rfl⟩)
       go_loopw [7] (fun kv wx=>∃k:Nat,k≤i∧kv= .int .i64 k∧Hid (∀j,j < k→sameChan c.chans i j=false)∧wx.heap[w.heap.size]?=some (.cells #[.int .i64 c.sets,.int .i64 c.ways,.int .i64 c.doms,.int .i64 c.pad,.int .i64 c.quantum,.slice a0 c.slots.length n0,.slice a1 c.owners.length n1,.slice (some ⟨b,o,none⟩) c.chans.length n2,.slice a3 c.tasks.length n3] 27)∧wx.heap[wo.heap.size]?=some (.cells #[.int .i64 (nth c.chans i).src,.int .i64 (nth c.chans i).dst,.int .i64 (nth c.chans i).size] 101)∧Below w.heap.size w wx) (fun kv _=>i - (intOf kv).toNat)
       case atStart=>exact ⟨0,Nat.zero_le _,rfl,(fun j hj=>by omega),p_w2,x_w2,h_w2⟩
       case round=>
        obtain ⟨k,hk,rfl,hqk,hpk,hxk,hbk⟩:=hrel
        obtain ⟨cpk,fpk,zpk⟩:=blk hpk
        obtain ⟨cxk,fxk,zxk⟩:=blk hxk
        clear hp hbr cp fp zp so hc0 hc1 hc2 hbr' p_w2 x_w2 h_w2 cp_w2 fp_w2 zp_w2 cx_w2 fx_w2 zx_w2 hb_w2 hb_w1 h_w1
        have so:=hbk.size
        by_cases hlk:k < i
        ·obtain ⟨b',o',hA,hI',hc0,hc1,hc2⟩:=(hs2.next hB hbk).at_chan (show k < c.chans.length by omega)
         injection hA with hA
         injection hA with eb eo
         subst eb eo
         have hbr':b < wr.heap.size:=by omega
         have hk0:(0:Int)≤k:=by omega
         have hk1:(k:Int) < c.chans.length:=by omega
         have hk2:(k:Int) < i:=by omega
         cases f1:((nth c.chans k).src==(nth c.chans i).src)
         ·have R:=zH (show sameChan c.chans i k=false by unfold sameChan;rw [f1];rfl)
          go_wp2_with fail
          go_quiet (fail)
          go_wp2_with fail
          go_roundw
          case rel=>exact ⟨k+1,by omega,by go_num,(fun j hj=>by
           by_cases e:j=k
           ·subst e;exact R.out
           ·exact hqk.out j (by omega)),byH,byH,byB⟩
          case measure=>simp [intOf];omega
         cases f2:((nth c.chans k).dst==(nth c.chans i).dst)
         ·have R:=zH (show sameChan c.chans i k=false by unfold sameChan;rw [f2];simp)
          go_wp2_with fail
          go_quiet (fail)
          go_wp2_with fail
          go_roundw
          case rel=>exact ⟨k+1,by omega,by go_num,(fun j hj=>by
           by_cases e:j=k
           ·subst e;exact R.out
           ·exact hqk.out j (by omega)),byH,byH,byB⟩
          case measure=>simp [intOf];omega
         have R:=zH (R6.out k hlk (by unfold sameChan;rw [f1,f2];rfl))
         go_wp2_with fail
         go_quiet (fail)
         go_wp2_with fail
         go_ret
         exact ⟨ret_int R.out.symm,byB⟩
        ·obtain rfl:k=i:=by omega
         have R:=zH (show chanErr c.doms c.chans k=0 by rw [R0.out,if_neg (by rw [Bool.not_eq_true,anyI_false];exact hqk.out)])
         go_wp2_with fail
         go_roundw
         case rel=>exact ⟨k+1,by omega,by go_num,(fun j hj=>by
          by_cases e:j=k
          ·subst e;exact R.out
          ·exact hq.out j (by omega)),byH,byB⟩
         case measure=>simp [intOf];omega
      ·obtain rfl:i=c.chans.length:=by omega
       have RC:=zH (RB.out.trans (Q6.out hq.out))
       clear hq Q5 Q6 RB
       go_wp2_with fail
       go_loopw [8] (fun iv wr=>∃i:Nat,i≤c.tasks.length∧iv= .int .i64 i∧Hid (∀j,j < i→taskErr c.doms (nth c.tasks j)=0)∧wr.heap[w.heap.size]?=some (.cells #[.int .i64 c.sets,.int .i64 c.ways,.int .i64 c.doms,.int .i64 c.pad,.int .i64 c.quantum,.slice a0 c.slots.length n0,.slice a1 c.owners.length n1,.slice a2 c.chans.length n2,.slice a3 c.tasks.length n3] 27)∧Below w.heap.size w wr) (fun iv _=>c.tasks.length - (intOf iv).toNat)
       case atStart=>exact ⟨0,Nat.zero_le _,rfl,(fun j hj=>by omega),hp,hbr⟩
       case round=>
        clear hp hbr cp fp zp so
        obtain ⟨i,hi,rfl,hq,hp,hbr⟩:=hrel
        obtain ⟨cp,fp,zp⟩:=blk hp
        have so:=hbr.size
        by_cases hlt:i < c.tasks.length
        ·obtain ⟨b,o,rfl,hI,hc0,hc1,hc2,hc3⟩:=(hs3.next hB hbr).at_task hlt
         have hbl:b < w.heap.size:=Nat.lt_of_lt_of_le hI hB
         have hbr':b < wr.heap.size:=by omega
         have hi0:(0:Int)≤i:=by omega
         have hi1:(i:Int) < c.tasks.length:=by omega
         cases e1:isDom c.doms (nth c.tasks i).dom
         ·have R:=zH (RC.out.trans <|(Q7.out i hlt hq.out (by simp [taskErr,e1])).trans (show taskErr c.doms (nth c.tasks i)=5 by simp [taskErr,e1]))
          go_wp2_with (go_at_call 40;refine (HD.out ⟨_,_,_,_,_,_,_,_⟩ _ _).mono ?_;rintro e w1 ⟨rfl,hb1⟩)
          go_ret
          exact ⟨ret_int R.out.symm,byB⟩
         ·cases e2:(inB 1 (nth c.tasks i).period 5000&&inB 1 (nth c.tasks i).budget (nth c.tasks i).period&&inB 1 (nth c.tasks i).dead (nth c.tasks i).period)
          ·have R:=zH (show taskErr c.doms (nth c.tasks i)=3 by
            unfold taskErr;rw [if_neg (by simp [e1]),if_pos (by cases e3:inB 1 (nth c.tasks i).period 5000<;>cases e4:inB 1 (nth c.tasks i).budget (nth c.tasks i).period<;>simp [e3,e4] at e2⊢;exact e2)])
           have R:=zH (RC.out.trans ((Q7.out i hlt hq.out (by rw [R.out];decide)).trans R.out))
           have hor:inB 1 (nth c.tasks i).period 5000=false∨(inB 1 (nth c.tasks i).period 5000=true∧inB 1 (nth c.tasks i).budget (nth c.tasks i).period=false)∨(inB 1 (nth c.tasks i).period 5000=true∧inB 1 (nth c.tasks i).budget (nth c.tasks i).period=true∧inB 1 (nth c.tasks i).dead (nth c.tasks i).period=false):=by
            cases e3:inB 1 (nth c.tasks i).period 5000<;>cases e4:inB 1 (nth c.tasks i).budget (nth c.tasks i).period<;>simp [e3,e4] at e2⊢;exact e2
           clear e2
           rcases hor with e3|⟨e3,e4⟩|⟨e3,e4,e5⟩
           all_goals
            go_wp2_with fail
            (go_at_call 40;refine (HD.out ⟨_,_,_,_,_,_,_,_⟩ _ _).mono ?_;rintro e w1 ⟨rfl,hb_w1⟩;refine kbb (show w1.heap[wr.heap.size]?=some (.cells #[.int .i64 (nth c.tasks i).dom,.int .i64 (nth c.tasks i).period,.int .i64 (nth c.tasks i).budget,.int .i64 (nth c.tasks i).dead] 103) from (hb_w1.block _ byS).trans byH) (fun x_w1 cx_w1 fx_w1 zx_w1=>?_);refine kbb (show w1.heap[w.heap.size]?=some (.cells #[.int .i64 c.sets,.int .i64 c.ways,.int .i64 c.doms,.int .i64 c.pad,.int .i64 c.quantum,.slice a0 c.slots.length n0,.slice a1 c.owners.length n1,.slice a2 c.chans.length n2,.slice (some ⟨b,o,none⟩) c.tasks.length n3] 27) from (hb_w1.block _ byS).trans byH) (fun p_w1 cp_w1 fp_w1 zp_w1=>?_);refine armT w hb_w1 (fun h_w1 s_w1 t_w1 hb_w1=>?_);(try simp at t_w1))
            go_wp2_with (go_at_call 48;refine (refBetween _ _ _ _).mono ?_;rintro e w' ⟨rfl,rfl⟩)
            go_ret
            exact ⟨ret_int R.out.symm,byB⟩
          ·simp only [Bool.and_eq_true] at e2
           obtain ⟨⟨e3,e4⟩,e5⟩:=e2
           have R:=zH (show taskErr c.doms (nth c.tasks i)=0 by simp [taskErr,e1,e3,e4,e5])
           go_wp2_with fail
           (go_at_call 40;refine (HD.out ⟨_,_,_,_,_,_,_,_⟩ _ _).mono ?_;rintro e w1 ⟨rfl,hb_w1⟩;refine kbb (show w1.heap[wr.heap.size]?=some (.cells #[.int .i64 (nth c.tasks i).dom,.int .i64 (nth c.tasks i).period,.int .i64 (nth c.tasks i).budget,.int .i64 (nth c.tasks i).dead] 103) from (hb_w1.block _ byS).trans byH) (fun x_w1 cx_w1 fx_w1 zx_w1=>?_);refine kbb (show w1.heap[w.heap.size]?=some (.cells #[.int .i64 c.sets,.int .i64 c.ways,.int .i64 c.doms,.int .i64 c.pad,.int .i64 c.quantum,.slice a0 c.slots.length n0,.slice a1 c.owners.length n1,.slice a2 c.chans.length n2,.slice (some ⟨b,o,none⟩) c.tasks.length n3] 27) from (hb_w1.block _ byS).trans byH) (fun p_w1 cp_w1 fp_w1 zp_w1=>?_);refine armT w hb_w1 (fun h_w1 s_w1 t_w1 hb_w1=>?_);(try simp at t_w1))
           go_wp2_with (go_at_call 48;refine (refBetween _ _ _ _).mono ?_;rintro e w' ⟨rfl,rfl⟩)
           go_roundw
           case rel=>exact ⟨i+1,by omega,by go_num,(fun j hj=>by
            by_cases e:j=i
            ·subst e;exact R.out
            ·exact hq.out j (by omega)),byH,byB⟩
           case measure=>simp [intOf];omega
        ·obtain rfl:i=c.tasks.length:=by omega
         have R:=zH (RC.out.trans (Q8.out hq.out))
         go_wp2
         go_ret
         exact ⟨ret_int R.out.symm,hbr⟩
end Go.Proofs.Ytinlmkhlgclbfab
