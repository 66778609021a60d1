/- ConfA to CloneEv -/
import Derived.Test.YtinlmkhlgclbfabDoorAs09
namespace Go.Proofs.YtinlmkhlgclbfabDoor
open Go.RowKit
section
set_option maxRecDepth 100000
set_option maxHeartbeats 1000000
theorem configWithin (n a b:Int)(w:World):
  Calls Tryd.prog 39 #[.int .i64 n,.int .i64 a,.int .i64 b] w fun e w'=>e= .returned (.bool (inB a n b))∧w=w':=by
 go_enter Tryd.func39,Tryd.ntmps39
 go_wp2
 all_goals go_ret
 all_goals (unfold inB;simp [*]<;>omega)
theorem configIsDomain (c:TCfg)(S:TCfgS)(d:Int)(h1:1≤c.doms)(h4:c.doms≤4)(w:World):
  Calls Tryd.prog 25 #[.agg #[.int .i64 c.sets,.int .i64 c.ways,.int .i64 c.doms,.int .i64 c.pad,.int .i64 c.quantum,.slice S.a0 c.slots.length S.n0,.slice S.a1 c.owners.length S.n1,.slice S.a2 c.chans.length S.n2,.slice S.a3 c.tasks.length S.n3],.int .i64 d] w fun e w'=>e= .returned (.bool (isDom c.doms d))∧Below w.heap.size w w':=by
 have hw:IntKind.i64.wrap (c.doms - 1)=c.doms - 1:=IntWalk.i64_in _ (by omega)
 go_enter Tryd.func25,Tryd.ntmps25
 go_wp2_with (go_at_call 39;refine (configWithin _ _ _ _).mono ?_;rintro e w' ⟨rfl,rfl⟩)
 go_ret
 exact ⟨rfl,byB⟩
theorem cfg_len {I:Nat→Prop}{w:World}{c:TCfg}{S:TCfgS}(hs:TCfg.At I w c S):c.slots.length≤9223372036854775807∧c.owners.length≤9223372036854775807∧c.chans.length≤9223372036854775807∧c.tasks.length≤9223372036854775807:=by
 have h0:=Nat.le_trans hs.s0.cap hs.s0.max
 have h1:=Nat.le_trans hs.s1.cap hs.s1.max
 have h2:=Nat.le_trans hs.s2.cap hs.s2.max
 have h3:=Nat.le_trans hs.s3.cap hs.s3.max
 unfold maxLen at h0 h1 h2 h3
 omega
theorem pad_wraps {a b:Int}(h1:1≤a∧a≤4)(h2:1≤b∧b≤3):IntKind.i64.wrap (5*a)=5*a∧IntKind.i64.wrap (5*a*b)=5*a*b∧IntKind.i64.wrap (2+5*a*b)=2+5*a*b:=by
 have hp:(0:Int)≤5*a*b∧5*a*b≤60:=by
  refine ⟨Int.mul_nonneg (by omega) (by omega),?_⟩
  have:=Int.mul_le_mul (show 5*a≤20 by omega) (show b≤3 by omega) (by omega) (by omega)
  omega
 exact ⟨IntWalk.i64_in _ (by omega),IntWalk.i64_in _ (by omega),IntWalk.i64_in _ (by omega)⟩
theorem configHead (c:TCfg)(S:TCfgS)(I:Nat→Prop)(w:World)(hs:TCfg.At I w c S):
  Calls Tryd.prog 42 #[.agg #[.int .i64 c.sets,.int .i64 c.ways,.int .i64 c.doms,.int .i64 c.pad,.int .i64 c.quantum,.slice S.a0 c.slots.length S.n0,.slice S.a1 c.owners.length S.n1,.slice S.a2 c.chans.length S.n2,.slice S.a3 c.tasks.length S.n3]] w fun e w'=>e= .returned (.int .i64 (headErr c))∧Below w.heap.size w w':=by
 obtain ⟨m0,m1,m2,m3⟩:=cfg_len hs
 clear hs
 cases b1:inB 1 c.sets 4
 ·have R:=zH (show headErr c=3 by unfold headErr;simp [b1])
  go_enter Tryd.func42,Tryd.ntmps42
  go_wp2_with (go_at_call 39;refine (configWithin _ _ _ _).mono ?_;rintro e w' ⟨rfl,rfl⟩)
  go_ret
  exact ⟨ret_int R.out.symm,byB⟩
 cases b2:inB 1 c.ways 3
 ·have R:=zH (show headErr c=3 by unfold headErr;simp [b2])
  go_enter Tryd.func42,Tryd.ntmps42
  go_wp2_with (go_at_call 39;refine (configWithin _ _ _ _).mono ?_;rintro e w' ⟨rfl,rfl⟩)
  go_ret
  exact ⟨ret_int R.out.symm,byB⟩
 cases b3:inB 1 c.doms 4
 ·have R:=zH (show headErr c=3 by unfold headErr;simp [b3])
  go_enter Tryd.func42,Tryd.ntmps42
  go_wp2_with (go_at_call 39;refine (configWithin _ _ _ _).mono ?_;rintro e w' ⟨rfl,rfl⟩)
  go_ret
  exact ⟨ret_int R.out.symm,byB⟩
 cases b4:inB 1 c.quantum 100
 ·have R:=zH (show headErr c=3 by unfold headErr;simp [b4])
  go_enter Tryd.func42,Tryd.ntmps42
  go_wp2_with (go_at_call 39;refine (configWithin _ _ _ _).mono ?_;rintro e w' ⟨rfl,rfl⟩)
  go_ret
  exact ⟨ret_int R.out.symm,byB⟩
 obtain ⟨x1,x2,x3⟩:=pad_wraps (inB_true.1 b1) (inB_true.1 b2)
 have R0:=zH (show headErr c=if !inB (2+5*c.sets*c.ways) c.pad 99 then 4
  else if !inB 1 c.slots.length 6||decide (4 < c.owners.length)||decide (4 < c.chans.length)||decide (6 < c.tasks.length) then 2 else 0 by unfold headErr;rw [if_neg (by simp [b1,b2,b3,b4])])
 by_cases hp:2+5*c.sets*c.ways≤c.pad
 ·by_cases hp2:100≤c.pad
  ·have R:=zH (show headErr c=4 by rw [R0.out,if_pos (by rw [Bool.not_eq_true'];exact inB_false.2 (by omega))])
   have hd:decide (c.pad < 2+5*c.sets*c.ways)=false:=by simpa using hp
   clear hp
   go_enter Tryd.func42,Tryd.ntmps42
   go_wp2_with (go_at_call 39;refine (configWithin _ _ _ _).mono ?_;rintro e w' ⟨rfl,rfl⟩)
   go_ret
   exact ⟨ret_int R.out.symm,byB⟩
  ·have R1:=zH (show headErr c=if !inB 1 c.slots.length 6||decide (4 < c.owners.length)||decide (4 < c.chans.length)||decide (6 < c.tasks.length) then 2 else 0 by rw [R0.out,if_neg (by rw [Bool.not_eq_true',Bool.not_eq_false];exact inB_true.2 (by omega))])
   have hd:decide (c.pad < 2+5*c.sets*c.ways)=false:=by simpa using hp
   clear hp R0
   go_enter Tryd.func42,Tryd.ntmps42
   go_wp2_with (go_at_call 39;refine (configWithin _ _ _ _).mono ?_;rintro e w' ⟨rfl,rfl⟩)
   all_goals go_ret
   all_goals refine ⟨ret_int ?_,byB⟩
   all_goals (rw [R1.out];simp_all<;>omega)
 ·have R:=zH (show headErr c=4 by rw [R0.out,if_pos (by rw [Bool.not_eq_true'];exact inB_false.2 (by omega))])
  have hd:decide (c.pad < 2+5*c.sets*c.ways)=true:=by simp;omega
  clear hp
  go_enter Tryd.func42,Tryd.ntmps42
  go_wp2_with (go_at_call 39;refine (configWithin _ _ _ _).mono ?_;rintro e w' ⟨rfl,rfl⟩)
  go_ret
  exact ⟨ret_int R.out.symm,byB⟩
theorem configSlots (c:TCfg)(S:TCfgS)(h1:1≤c.doms)(h4:c.doms≤4)(B:Nat)(w:World)(hB:B≤w.heap.size)(hs:TCfg.At (Low B) w c S):
  Calls Tryd.prog 43 #[.agg #[.int .i64 c.sets,.int .i64 c.ways,.int .i64 c.doms,.int .i64 c.pad,.int .i64 c.quantum,.slice S.a0 c.slots.length S.n0,.slice S.a1 c.owners.length S.n1,.slice S.a2 c.chans.length S.n2,.slice S.a3 c.tasks.length S.n3]] w fun e w'=>e= .returned (.int .i64 (slotsErr c))∧Below w.heap.size w w':=by
 obtain ⟨m0,m1,m2,m3⟩:=cfg_len hs
 have RH:=zH (fun i hi (hq:∀j,j < i→slotErr c.doms (nth c.slots j)=0) (h:slotErr c.doms (nth c.slots i)≠0)=>show slotsErr c=slotErr c.doms (nth c.slots i) from firstE_hit hi hq h)
 have RN:=zH (fun (hq:∀j,j < c.slots.length→slotErr c.doms (nth c.slots j)=0)=>show slotsErr c=0 from firstE_none hq)
 have HD:=zH (fun S d W=>configIsDomain c S d h1 h4 W)
 (obtain ⟨a0,n0,a1,n1,a2,n2,a3,n3⟩:=S;obtain ⟨hs0,hs1,hs2,hs3⟩:=hs;dsimp only at hs0 hs1 hs2 hs3⊢)
 go_enter Tryd.func43,Tryd.ntmps43
 go_wp2
 go_loopw [8] (fun iv wr=>∃i:Nat,i≤c.slots.length∧iv= .int .i64 i∧Hid (∀j,j < i→slotErr c.doms (nth c.slots j)=0)∧wr.heap[w.heap.size]?=some (.cells #[.int .i64 c.sets,.int .i64 c.ways,.int .i64 c.doms,.int .i64 c.pad,.int .i64 c.quantum,.slice a0 c.slots.length n0,.slice a1 c.owners.length n1,.slice a2 c.chans.length n2,.slice a3 c.tasks.length n3] 27)∧Below w.heap.size w wr) (fun iv _=>c.slots.length - (intOf iv).toNat)
 case atStart=>exact ⟨0,Nat.zero_le _,rfl,(fun j hj=>by omega),byH,byB⟩
 case round=>
  obtain ⟨i,hi,rfl,hq,hp,hbr⟩:=hrel
  obtain ⟨cp,fp,zp⟩:=blk hp
  have so:=hbr.size
  by_cases hlt:i < c.slots.length
  ·obtain ⟨b,o,rfl,hI,hc0,hc1⟩:=(hs0.next hB hbr).at_slot hlt
   have hbl:b < w.heap.size:=Nat.lt_of_lt_of_le hI hB
   have hbr':b < wr.heap.size:=by omega
   have hi0:(0:Int)≤i:=by omega
   have hi1:(i:Int) < c.slots.length:=by omega
   cases b1:isDom c.doms (nth c.slots i).dom
   ·have R:=zH ((RH.out i hlt hq.out (by simp [slotErr,b1])).trans (show slotErr c.doms (nth c.slots i)=5 by simp [slotErr,b1]))
    go_wp2_with (go_at_call 25;refine (HD.out ⟨_,_,_,_,_,_,_,_⟩ _ _).mono ?_;rintro e w1 ⟨rfl,hb1⟩)
    go_ret
    exact ⟨ret_int R.out.symm,byB⟩
   ·cases b2:inB 100 (nth c.slots i).len 1000
    ·have R:=zH ((RH.out i hlt hq.out (by simp [slotErr,b1,b2])).trans (show slotErr c.doms (nth c.slots i)=3 by simp [slotErr,b1,b2]))
     go_wp2_with fail
     (go_at_call 25;refine (HD.out ⟨_,_,_,_,_,_,_,_⟩ _ _).mono ?_;rintro e w1 ⟨rfl,hb_w1⟩;refine kbb (show w1.heap[wr.heap.size]?=some (.cells #[.int .i64 (nth c.slots i).dom,.int .i64 (nth c.slots i).len] 81) from (hb_w1.block _ byS).trans byH) (fun x_w1 cx_w1 fx_w1 zx_w1=>?_);refine kbb (show w1.heap[w.heap.size]?=some (.cells #[.int .i64 c.sets,.int .i64 c.ways,.int .i64 c.doms,.int .i64 c.pad,.int .i64 c.quantum,.slice (some ⟨b,o,none⟩) c.slots.length n0,.slice a1 c.owners.length n1,.slice a2 c.chans.length n2,.slice a3 c.tasks.length n3] 27) from (hb_w1.block _ byS).trans byH) (fun p_w1 cp_w1 fp_w1 zp_w1=>?_);refine armT w hb_w1 (fun h_w1 s_w1 t_w1 hb_w1=>?_);(try simp at t_w1))
     go_wp2_with (go_at_call 39;refine (configWithin _ _ _ _).mono ?_;rintro e w' ⟨rfl,rfl⟩)
     go_ret
     exact ⟨ret_int R.out.symm,byB⟩
    ·have R:=zH (show slotErr c.doms (nth c.slots i)=0 by simp [slotErr,b1,b2])
     go_wp2_with fail
     (go_at_call 25;refine (HD.out ⟨_,_,_,_,_,_,_,_⟩ _ _).mono ?_;rintro e w1 ⟨rfl,hb_w1⟩;refine kbb (show w1.heap[wr.heap.size]?=some (.cells #[.int .i64 (nth c.slots i).dom,.int .i64 (nth c.slots i).len] 81) from (hb_w1.block _ byS).trans byH) (fun x_w1 cx_w1 fx_w1 zx_w1=>?_);refine kbb (show w1.heap[w.heap.size]?=some (.cells #[.int .i64 c.sets,.int .i64 c.ways,.int .i64 c.doms,.int .i64 c.pad,.int .i64 c.quantum,.slice (some ⟨b,o,none⟩) c.slots.length n0,.slice a1 c.owners.length n1,.slice a2 c.chans.length n2,.slice a3 c.tasks.length n3] 27) from (hb_w1.block _ byS).trans byH) (fun p_w1 cp_w1 fp_w1 zp_w1=>?_);refine armT w hb_w1 (fun h_w1 s_w1 t_w1 hb_w1=>?_);(try simp at t_w1))
     go_wp2_with (go_at_call 39;refine (configWithin _ _ _ _).mono ?_;rintro e w' ⟨rfl,rfl⟩)
     go_roundw
     case rel=>exact ⟨i+1,by omega,by go_num,(fun j hj=>by
      by_cases e:j=i
      ·subst e;exact R.out
      ·exact hq.out j (by omega)),byH,byB⟩
     case measure=>simp [intOf];omega
  ·obtain rfl:i=c.slots.length:=by omega
   have R:=zH (RN.out hq.out)
   go_wp2
   go_ret
   exact ⟨ret_int R.out.symm,hbr⟩
theorem configTasks (c:TCfg)(S:TCfgS)(h1:1≤c.doms)(h4:c.doms≤4)(B:Nat)(w:World)(hB:B≤w.heap.size)(hs:TCfg.At (Low B) w c S):
  Calls Tryd.prog 46 #[.agg #[.int .i64 c.sets,.int .i64 c.ways,.int .i64 c.doms,.int .i64 c.pad,.int .i64 c.quantum,.slice S.a0 c.slots.length S.n0,.slice S.a1 c.owners.length S.n1,.slice S.a2 c.chans.length S.n2,.slice S.a3 c.tasks.length S.n3]] w fun e w'=>e= .returned (.int .i64 (tasksErr c))∧Below w.heap.size w w':=by
 obtain ⟨m0,m1,m2,m3⟩:=cfg_len hs
 have RH:=zH (fun i hi (hq:∀j,j < i→taskErr c.doms (nth c.tasks j)=0) (h:taskErr c.doms (nth c.tasks i)≠0)=>show tasksErr c=taskErr c.doms (nth c.tasks i) from firstE_hit hi hq h)
 have RN:=zH (fun (hq:∀j,j < c.tasks.length→taskErr c.doms (nth c.tasks j)=0)=>show tasksErr c=0 from firstE_none hq)
 have HD:=zH (fun S d W=>configIsDomain c S d h1 h4 W)
 (obtain ⟨a0,n0,a1,n1,a2,n2,a3,n3⟩:=S;obtain ⟨hs0,hs1,hs2,hs3⟩:=hs;dsimp only at hs0 hs1 hs2 hs3⊢)
 go_enter Tryd.func46,Tryd.ntmps46
 go_wp2
 go_loopw [8] (fun iv wr=>∃i:Nat,i≤c.tasks.length∧iv= .int .i64 i∧Hid (∀j,j < i→taskErr c.doms (nth c.tasks j)=0)∧wr.heap[w.heap.size]?=some (.cells #[.int .i64 c.sets,.int .i64 c.ways,.int .i64 c.doms,.int .i64 c.pad,.int .i64 c.quantum,.slice a0 c.slots.length n0,.slice a1 c.owners.length n1,.slice a2 c.chans.length n2,.slice a3 c.tasks.length n3] 27)∧Below w.heap.size w wr) (fun iv _=>c.tasks.length - (intOf iv).toNat)
 case atStart=>exact ⟨0,Nat.zero_le _,rfl,(fun j hj=>by omega),byH,byB⟩
 case round=>
  obtain ⟨i,hi,rfl,hq,hp,hbr⟩:=hrel
  obtain ⟨cp,fp,zp⟩:=blk hp
  have so:=hbr.size
  by_cases hlt:i < c.tasks.length
  ·obtain ⟨b,o,rfl,hI,hc0,hc1,hc2,hc3⟩:=(hs3.next hB hbr).at_task hlt
   have hbl:b < w.heap.size:=Nat.lt_of_lt_of_le hI hB
   have hbr':b < wr.heap.size:=by omega
   have hi0:(0:Int)≤i:=by omega
   have hi1:(i:Int) < c.tasks.length:=by omega
   cases b1:isDom c.doms (nth c.tasks i).dom
   ·have R:=zH ((RH.out i hlt hq.out (by simp [taskErr,b1])).trans (show taskErr c.doms (nth c.tasks i)=5 by simp [taskErr,b1]))
    go_wp2_with (go_at_call 25;refine (HD.out ⟨_,_,_,_,_,_,_,_⟩ _ _).mono ?_;rintro e w1 ⟨rfl,hb1⟩)
    go_ret
    exact ⟨ret_int R.out.symm,byB⟩
   ·cases b2:(inB 1 (nth c.tasks i).period 5000&&inB 1 (nth c.tasks i).budget (nth c.tasks i).period&&inB 1 (nth c.tasks i).dead (nth c.tasks i).period)
    ·have R:=zH (show taskErr c.doms (nth c.tasks i)=3 by
      unfold taskErr;rw [if_neg (by simp [b1]),if_pos (by cases e1:inB 1 (nth c.tasks i).period 5000<;>cases e2:inB 1 (nth c.tasks i).budget (nth c.tasks i).period<;>simp [e1,e2] at b2⊢;exact b2)])
     have R:=zH ((RH.out i hlt hq.out (by rw [R.out];decide)).trans R.out)
     have hor:inB 1 (nth c.tasks i).period 5000=false∨(inB 1 (nth c.tasks i).period 5000=true∧inB 1 (nth c.tasks i).budget (nth c.tasks i).period=false)∨(inB 1 (nth c.tasks i).period 5000=true∧inB 1 (nth c.tasks i).budget (nth c.tasks i).period=true∧inB 1 (nth c.tasks i).dead (nth c.tasks i).period=false):=by
      cases e1:inB 1 (nth c.tasks i).period 5000<;>cases e2:inB 1 (nth c.tasks i).budget (nth c.tasks i).period<;>simp [e1,e2] at b2⊢;exact b2
     clear b2
     rcases hor with e1|⟨e1,e2⟩|⟨e1,e2,e3⟩
     all_goals
      go_wp2_with fail
      (go_at_call 25;refine (HD.out ⟨_,_,_,_,_,_,_,_⟩ _ _).mono ?_;rintro e w1 ⟨rfl,hb_w1⟩;refine kbb (show w1.heap[wr.heap.size]?=some (.cells #[.int .i64 (nth c.tasks i).dom,.int .i64 (nth c.tasks i).period,.int .i64 (nth c.tasks i).budget,.int .i64 (nth c.tasks i).dead] 83) from (hb_w1.block _ byS).trans byH) (fun x_w1 cx_w1 fx_w1 zx_w1=>?_);refine kbb (show w1.heap[w.heap.size]?=some (.cells #[.int .i64 c.sets,.int .i64 c.ways,.int .i64 c.doms,.int .i64 c.pad,.int .i64 c.quantum,.slice a0 c.slots.length n0,.slice a1 c.owners.length n1,.slice a2 c.chans.length n2,.slice (some ⟨b,o,none⟩) c.tasks.length n3] 27) from (hb_w1.block _ byS).trans byH) (fun p_w1 cp_w1 fp_w1 zp_w1=>?_);refine armT w hb_w1 (fun h_w1 s_w1 t_w1 hb_w1=>?_);(try simp at t_w1))
      go_wp2_with (go_at_call 39;refine (configWithin _ _ _ _).mono ?_;rintro e w' ⟨rfl,rfl⟩)
      go_ret
      exact ⟨ret_int R.out.symm,byB⟩
    ·simp only [Bool.and_eq_true] at b2
     obtain ⟨⟨e1,e2⟩,e3⟩:=b2
     have R:=zH (show taskErr c.doms (nth c.tasks i)=0 by simp [taskErr,b1,e1,e2,e3])
     go_wp2_with fail
     (go_at_call 25;refine (HD.out ⟨_,_,_,_,_,_,_,_⟩ _ _).mono ?_;rintro e w1 ⟨rfl,hb_w1⟩;refine kbb (show w1.heap[wr.heap.size]?=some (.cells #[.int .i64 (nth c.tasks i).dom,.int .i64 (nth c.tasks i).period,.int .i64 (nth c.tasks i).budget,.int .i64 (nth c.tasks i).dead] 83) from (hb_w1.block _ byS).trans byH) (fun x_w1 cx_w1 fx_w1 zx_w1=>?_);refine kbb (show w1.heap[w.heap.size]?=some (.cells #[.int .i64 c.sets,.int .i64 c.ways,.int .i64 c.doms,.int .i64 c.pad,.int .i64 c.quantum,.slice a0 c.slots.length n0,.slice a1 c.owners.length n1,.slice a2 c.chans.length n2,.slice (some ⟨b,o,none⟩) c.tasks.length n3] 27) from (hb_w1.block _ byS).trans byH) (fun p_w1 cp_w1 fp_w1 zp_w1=>?_);refine armT w hb_w1 (fun h_w1 s_w1 t_w1 hb_w1=>?_);(try simp at t_w1))
     go_wp2_with (go_at_call 39;refine (configWithin _ _ _ _).mono ?_;rintro e w' ⟨rfl,rfl⟩)
     go_roundw
     case rel=>exact ⟨i+1,by omega,by go_num,(fun j hj=>by
      by_cases e:j=i
      ·subst e;exact R.out
      ·exact hq.out j (by omega)),byH,byB⟩
     case measure=>simp [intOf];omega
  ·obtain rfl:i=c.tasks.length:=by omega
   have R:=zH (RN.out hq.out)
   go_wp2
   go_ret
   exact ⟨ret_int R.out.symm,hbr⟩
theorem configOwners1 (c:TCfg)(S:TCfgS)(h1:1≤c.doms)(h4:c.doms≤4)(d:Int)(g:Nat)(w:World)(hg:w.heap[g]?=some (.cells #[.int .i64 c.sets,.int .i64 c.ways,.int .i64 c.doms,.int .i64 c.pad,.int .i64 c.quantum,.slice S.a0 c.slots.length S.n0,.slice S.a1 c.owners.length S.n1,.slice S.a2 c.chans.length S.n2,.slice S.a3 c.tasks.length S.n3] 27)):
  Calls Tryd.prog 56 #[.int .i64 d,.pointer (some ⟨g,0,none⟩)] w fun e w'=>e= .returned (.bool (!isDom c.doms d))∧Below w.heap.size w w':=by
 obtain ⟨cp,fp,zp⟩:=blk hg
 go_enter Tryd.func56,Tryd.ntmps56
 go_wp2_with (go_at_call 25;refine (configIsDomain c S _ h1 h4 _).mono ?_;rintro e w1 ⟨rfl,hb1⟩)
 go_ret
 exact ⟨rfl,byB⟩
theorem enters_owners1:Enters Tryd.prog 56:=fun _ _=>by kernel_rfl
theorem configOwners (c:TCfg)(S:TCfgS)(h1:1≤c.doms)(h4:c.doms≤4)(B:Nat)(w:World)(hB:B≤w.heap.size)(hs:TCfg.At (Low B) w c S):
  Calls Tryd.prog 44 #[.agg #[.int .i64 c.sets,.int .i64 c.ways,.int .i64 c.doms,.int .i64 c.pad,.int .i64 c.quantum,.slice S.a0 c.slots.length S.n0,.slice S.a1 c.owners.length S.n1,.slice S.a2 c.chans.length S.n2,.slice S.a3 c.tasks.length S.n3]] w fun e w'=>e= .returned (.int .i64 (ownersErr c))∧Below w.heap.size w w':=by
 have H:=zH (fun W (h:Below w.heap.size w W) (hg:W.heap[w.heap.size]?=some (.cells #[.int .i64 c.sets,.int .i64 c.ways,.int .i64 c.doms,.int .i64 c.pad,.int .i64 c.quantum,.slice S.a0 c.slots.length S.n0,.slice S.a1 c.owners.length S.n1,.slice S.a2 c.chans.length S.n2,.slice S.a3 c.tasks.length S.n3] 27))=>
  containsInt c.owners S.a1 S.n1 56 #[.pointer (some ⟨w.heap.size,0,none⟩)] (fun i=>!isDom c.doms (nth c.owners i)) B W (Nat.le_trans hB h.size) (hs.s1.next hB h) enters_owners1
   (fun k hk W' hb=>configOwners1 c S h1 h4 _ w.heap.size W' ((hb.block _ (by obtain ⟨_,_,z⟩:=blk hg;exact z)).trans hg)))
 clear hs
 cases e:anyI c.owners.length (fun i=>!isDom c.doms (nth c.owners i))
 all_goals
  rw [e] at H
  have R:=zH e
  clear e
  go_enter Tryd.func44,Tryd.ntmps44
  go_wp2_with (go_at_call 55;refine (H.out _ byB byH).mono ?_;rintro e w1 ⟨rfl,hb1⟩)
  go_ret
  exact ⟨ret_int (by simp [ownersErr,R.out]),byB⟩
end
section
set_option maxRecDepth 100000
set_option maxHeartbeats 400000
theorem tyJob:TyS Tryd.prog 41 74 (.agg #[.int .i64 0,.int .i64 0,.int .i64 0,.int .i64 0,.bool false,.bool false]) 6 40:=⟨Tryd.underlying41,info_of (by kernel_rfl),rfl,by decide⟩
theorem tyEv:TyS Tryd.prog 44 79 (.agg #[.int .i64 0,.int .i64 0,.int .i64 0,.int .i64 0]) 4 32:=⟨Tryd.underlying44,info_of (by kernel_rfl),rfl,by decide⟩
end
end Go.Proofs.YtinlmkhlgclbfabDoor
