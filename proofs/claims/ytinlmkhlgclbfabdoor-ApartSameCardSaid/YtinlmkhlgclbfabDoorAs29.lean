/- ConfB to TurnA -/
import Derived.Test.YtinlmkhlgclbfabDoorAs28
namespace Go.Proofs.YtinlmkhlgclbfabDoor
open Go.RowKit
section
set_option maxRecDepth 100000
set_option maxHeartbeats 1000000
theorem configChannels1 (x y:TChan)(g:Nat)(w:World)(hg:w.heap[g]?=some (.cells #[.int .i64 x.src,.int .i64 x.dst,.int .i64 x.size] 124)):
  Calls Tryd.prog 58 #[.agg #[.int .i64 y.src,.int .i64 y.dst,.int .i64 y.size],.pointer (some ⟨g,0,none⟩)] w fun e w'=>e= .returned (.bool (y.src==x.src&&y.dst==x.dst))∧Below w.heap.size w w':=by
 obtain ⟨cp,fp,zp⟩:=blk hg
 go_enter Tryd.func58,Tryd.ntmps58
 go_wp2
 all_goals go_ret
 all_goals exact ⟨ret_bool (by simp_all),byB⟩
theorem enters_channels1:Enters Tryd.prog 58:=fun _ _=>by kernel_rfl
theorem configChannels (c:TCfg)(S:TCfgS)(h1:1≤c.doms)(h4:c.doms≤4)(B:Nat)(w:World)(hB:B≤w.heap.size)(hs:TCfg.At (Low B) w c S):
  Calls Tryd.prog 45 #[.agg #[.int .i64 c.sets,.int .i64 c.ways,.int .i64 c.doms,.int .i64 c.pad,.int .i64 c.quantum,.slice S.a0 c.slots.length S.n0,.slice S.a1 c.owners.length S.n1,.slice S.a2 c.chans.length S.n2,.slice S.a3 c.tasks.length S.n3]] w fun e w'=>e= .returned (.int .i64 (chansErr c))∧Below w.heap.size w w':=by
 obtain ⟨m0,m1,m2,m3⟩:=cfg_len hs
 have RH:=zH (fun i hi (hq:∀j,j < i→chanErr c.doms c.chans j=0) (h:chanErr c.doms c.chans i≠0)=>show chansErr c=chanErr c.doms c.chans i from firstE_hit hi hq h)
 have RN:=zH (fun (hq:∀j,j < c.chans.length→chanErr c.doms c.chans j=0)=>show chansErr c=0 from firstE_none hq)
 have HD:=zH (fun S d W=>configIsDomain c S d h1 h4 W)
 (obtain ⟨a0,n0,a1,n1,a2,n2,a3,n3⟩:=S;obtain ⟨hs0,hs1,hs2,hs3⟩:=hs;dsimp only at hs0 hs1 hs2 hs3⊢)
 have hcap:=hs2.cap
 go_enter Tryd.func45,Tryd.ntmps45
 go_wp2
 go_loopw [8] (fun iv wr=>∃i:Nat,i≤c.chans.length∧iv= .int .i64 i∧Hid (∀j,j < i→chanErr c.doms c.chans j=0)∧wr.heap[w.heap.size]?=some (.cells #[.int .i64 c.sets,.int .i64 c.ways,.int .i64 c.doms,.int .i64 c.pad,.int .i64 c.quantum,.slice a0 c.slots.length n0,.slice a1 c.owners.length n1,.slice a2 c.chans.length n2,.slice a3 c.tasks.length n3] 27)∧Below w.heap.size w wr) (fun iv _=>c.chans.length - (intOf iv).toNat)
 case atStart=>exact ⟨0,Nat.zero_le _,rfl,(fun j hj=>by omega),byH,byB⟩
 case round=>
  obtain ⟨i,hi,rfl,hq,hp,hbr⟩:=hrel
  obtain ⟨cp,fp,zp⟩:=blk hp
  have so:=hbr.size
  by_cases hlt:i < c.chans.length
  ·have hS:=hs2.next hB hbr
   obtain ⟨b,o,rfl,hI,hc0,hc1,hc2⟩:=hS.at_chan hlt
   have hbl:b < w.heap.size:=Nat.lt_of_lt_of_le hI hB
   have hbr':b < wr.heap.size:=by omega
   have hi0:(0:Int)≤i:=by omega
   have hi1:(i:Int) < c.chans.length:=by omega
   have hi2:(i:Int)≤n2:=by omega
   have htk:(c.chans.take i).length=i:=by rw [List.length_take];omega
   have HT:=zH (fun W (h:Below wr.heap.size wr W) (hg:W.heap[wr.heap.size]?=some (.cells #[.int .i64 (nth c.chans i).src,.int .i64 (nth c.chans i).dst,.int .i64 (nth c.chans i).size] 124))=>by
    have h1:=containsChan (c.chans.take i) (some ⟨b,o,none⟩) n2 58 #[.pointer (some ⟨wr.heap.size,0,none⟩)] (fun j=>sameChan c.chans i j) B W (Nat.le_trans (Nat.le_trans hB so) h.size) ((hS.next (Nat.le_trans hB so) h).take i) enters_channels1
     (fun j hj W' hb=>by
      rw [htk] at hj
      rw [nth_take hj]
      exact configChannels1 (nth c.chans i) (nth c.chans j) wr.heap.size W' ((hb.block _ (by obtain ⟨_,_,z⟩:=blk hg;exact z)).trans hg))
    rw [htk] at h1
    exact h1)
   clear hS htk
   cases b1:isDom c.doms (nth c.chans i).src
   ·have R:=zH (show chanErr c.doms c.chans i=5 by unfold chanErr;simp [b1])
    have R:=zH ((RH.out i hlt hq.out (by rw [R.out];decide)).trans R.out)
    go_wp2_with (go_at_call 25;refine (HD.out ⟨_,_,_,_,_,_,_,_⟩ _ _).mono ?_;rintro e w1 ⟨rfl,hb1⟩)
    go_ret
    exact ⟨ret_int R.out.symm,byB⟩
   cases b2:isDom c.doms (nth c.chans i).dst
   ·have R:=zH (show chanErr c.doms c.chans i=5 by unfold chanErr;simp [b2])
    have R:=zH ((RH.out i hlt hq.out (by rw [R.out];decide)).trans R.out)
    go_wp2_with fail
    (go_at_call 25;refine (HD.out ⟨_,_,_,_,_,_,_,_⟩ _ _).mono ?_;rintro e w1 ⟨rfl,hb_w1⟩;refine kbb (show w1.heap[wr.heap.size]?=some (.cells #[.int .i64 (nth c.chans i).src,.int .i64 (nth c.chans i).dst,.int .i64 (nth c.chans i).size] 124) from (hb_w1.block _ byS).trans byH) (fun x_w1 cx_w1 fx_w1 zx_w1=>?_);refine kbb (show w1.heap[w.heap.size]?=some (.cells #[.int .i64 c.sets,.int .i64 c.ways,.int .i64 c.doms,.int .i64 c.pad,.int .i64 c.quantum,.slice a0 c.slots.length n0,.slice a1 c.owners.length n1,.slice (some ⟨b,o,none⟩) c.chans.length n2,.slice a3 c.tasks.length n3] 27) from (hb_w1.block _ byS).trans byH) (fun p_w1 cp_w1 fp_w1 zp_w1=>?_);refine armT w hb_w1 (fun h_w1 s_w1 t_w1 hb_w1=>?_);(try simp at t_w1))
    go_wp2_with (go_at_call 25;refine (HD.out ⟨_,_,_,_,_,_,_,_⟩ _ _).mono ?_;rintro e w2 ⟨rfl,hb2⟩)
    go_ret
    exact ⟨ret_int R.out.symm,byB⟩
   by_cases e3:(nth c.chans i).src=(nth c.chans i).dst
   ·have R:=zH (show chanErr c.doms c.chans i=1 by unfold chanErr;rw [if_neg (by simp [b1,b2]),if_pos e3])
    have R:=zH ((RH.out i hlt hq.out (by rw [R.out];decide)).trans R.out)
    have b3:((nth c.chans i).src==(nth c.chans i).dst)=true:=by simp [e3]
    clear e3
    go_wp2_with fail
    (go_at_call 25;refine (HD.out ⟨_,_,_,_,_,_,_,_⟩ _ _).mono ?_;rintro e w1 ⟨rfl,hb_w1⟩;refine kbb (show w1.heap[wr.heap.size]?=some (.cells #[.int .i64 (nth c.chans i).src,.int .i64 (nth c.chans i).dst,.int .i64 (nth c.chans i).size] 124) from (hb_w1.block _ byS).trans byH) (fun x_w1 cx_w1 fx_w1 zx_w1=>?_);refine kbb (show w1.heap[w.heap.size]?=some (.cells #[.int .i64 c.sets,.int .i64 c.ways,.int .i64 c.doms,.int .i64 c.pad,.int .i64 c.quantum,.slice a0 c.slots.length n0,.slice a1 c.owners.length n1,.slice (some ⟨b,o,none⟩) c.chans.length n2,.slice a3 c.tasks.length n3] 27) from (hb_w1.block _ byS).trans byH) (fun p_w1 cp_w1 fp_w1 zp_w1=>?_);refine armT w hb_w1 (fun h_w1 s_w1 t_w1 hb_w1=>?_);(try simp at t_w1))
    go_wp2_with fail
    (go_at_call 25;refine (HD.out ⟨_,_,_,_,_,_,_,_⟩ _ _).mono ?_;rintro e w2 ⟨rfl,hb_w2⟩;refine kbb (kb x_w1 hb_w2) (fun x_w2 cx_w2 fx_w2 zx_w2=>?_);refine kbb (kb p_w1 hb_w2) (fun p_w2 cp_w2 fp_w2 zp_w2=>?_);refine armT w hb_w2 (fun h_w2 s_w2 t_w2 hb_w2=>?_);(try simp at t_w2);clear x_w1 cx_w1 fx_w1 p_w1 cp_w1 fp_w1)
    go_wp2_with fail
    go_ret
    exact ⟨ret_int R.out.symm,byB⟩
   have b3:((nth c.chans i).src==(nth c.chans i).dst)=false:=by simp [e3]
   cases b4:inB 1 (nth c.chans i).size 4
   ·have R:=zH (show chanErr c.doms c.chans i=3 by unfold chanErr;rw [if_neg (by simp [b1,b2]),if_neg e3,if_pos (by simp [b4])])
    have R:=zH ((RH.out i hlt hq.out (by rw [R.out];decide)).trans R.out)
    clear e3
    go_wp2_with fail
    (go_at_call 25;refine (HD.out ⟨_,_,_,_,_,_,_,_⟩ _ _).mono ?_;rintro e w1 ⟨rfl,hb_w1⟩;refine kbb (show w1.heap[wr.heap.size]?=some (.cells #[.int .i64 (nth c.chans i).src,.int .i64 (nth c.chans i).dst,.int .i64 (nth c.chans i).size] 124) from (hb_w1.block _ byS).trans byH) (fun x_w1 cx_w1 fx_w1 zx_w1=>?_);refine kbb (show w1.heap[w.heap.size]?=some (.cells #[.int .i64 c.sets,.int .i64 c.ways,.int .i64 c.doms,.int .i64 c.pad,.int .i64 c.quantum,.slice a0 c.slots.length n0,.slice a1 c.owners.length n1,.slice (some ⟨b,o,none⟩) c.chans.length n2,.slice a3 c.tasks.length n3] 27) from (hb_w1.block _ byS).trans byH) (fun p_w1 cp_w1 fp_w1 zp_w1=>?_);refine armT w hb_w1 (fun h_w1 s_w1 t_w1 hb_w1=>?_);(try simp at t_w1))
    go_wp2_with fail
    (go_at_call 25;refine (HD.out ⟨_,_,_,_,_,_,_,_⟩ _ _).mono ?_;rintro e w2 ⟨rfl,hb_w2⟩;refine kbb (kb x_w1 hb_w2) (fun x_w2 cx_w2 fx_w2 zx_w2=>?_);refine kbb (kb p_w1 hb_w2) (fun p_w2 cp_w2 fp_w2 zp_w2=>?_);refine armT w hb_w2 (fun h_w2 s_w2 t_w2 hb_w2=>?_);(try simp at t_w2);clear x_w1 cx_w1 fx_w1 p_w1 cp_w1 fp_w1)
    go_wp2_with (go_at_call 39;refine (configWithin _ _ _ _).mono ?_;rintro e w' ⟨rfl,rfl⟩)
    go_ret
    exact ⟨ret_int R.out.symm,byB⟩
   have R0:chanErr c.doms c.chans i=if anyI i (sameChan c.chans i) then 6 else 0:=by unfold chanErr;rw [if_neg (by simp [b1,b2]),if_neg e3,if_neg (by simp [b4])]
   cases b5:anyI i (sameChan c.chans i)
   all_goals
    rw [b5] at HT
    rw [b5] at R0
    have R:=zH R0
    have hqi:=zH (fun (h:chanErr c.doms c.chans i≠0)=>RH.out i hlt hq.out h)
    clear e3 b5 R0
    go_wp2_with fail
    (go_at_call 25;refine (HD.out ⟨_,_,_,_,_,_,_,_⟩ _ _).mono ?_;rintro e w1 ⟨rfl,hb_w1⟩;refine kbb (show w1.heap[wr.heap.size]?=some (.cells #[.int .i64 (nth c.chans i).src,.int .i64 (nth c.chans i).dst,.int .i64 (nth c.chans i).size] 124) from (hb_w1.block _ byS).trans byH) (fun x_w1 cx_w1 fx_w1 zx_w1=>?_);refine kbb (show w1.heap[w.heap.size]?=some (.cells #[.int .i64 c.sets,.int .i64 c.ways,.int .i64 c.doms,.int .i64 c.pad,.int .i64 c.quantum,.slice a0 c.slots.length n0,.slice a1 c.owners.length n1,.slice (some ⟨b,o,none⟩) c.chans.length n2,.slice a3 c.tasks.length n3] 27) from (hb_w1.block _ byS).trans byH) (fun p_w1 cp_w1 fp_w1 zp_w1=>?_);refine armT w hb_w1 (fun h_w1 s_w1 t_w1 hb_w1=>?_);(try simp at t_w1))
    go_wp2_with fail
    (go_at_call 25;refine (HD.out ⟨_,_,_,_,_,_,_,_⟩ _ _).mono ?_;rintro e w2 ⟨rfl,hb_w2⟩;refine kbb (kb x_w1 hb_w2) (fun x_w2 cx_w2 fx_w2 zx_w2=>?_);refine kbb (kb p_w1 hb_w2) (fun p_w2 cp_w2 fp_w2 zp_w2=>?_);refine armT w hb_w2 (fun h_w2 s_w2 t_w2 hb_w2=>?_);(try simp at t_w2);clear x_w1 cx_w1 fx_w1 p_w1 cp_w1 fp_w1)
    go_wp2_with (go_at_call 39;refine (configWithin _ _ _ _).mono ?_;rintro e w' ⟨rfl,rfl⟩)
    (go_at_call 57;refine (HT.out _ byB byH).mono ?_;rintro e w3 ⟨rfl,hb_w3⟩;refine kbb (kb x_w2 hb_w3) (fun x_w3 cx_w3 fx_w3 zx_w3=>?_);refine kbb (kb p_w2 hb_w3) (fun p_w3 cp_w3 fp_w3 zp_w3=>?_);refine armT w hb_w3 (fun h_w3 s_w3 t_w3 hb_w3=>?_);(try simp at t_w3);clear x_w2 cx_w2 fx_w2 p_w2 cp_w2 fp_w2)
    go_wp2_with fail
   ·go_roundw
    case rel=>exact ⟨i+1,by omega,by go_num,(fun j hj=>by
     by_cases e:j=i
     ·subst e;exact R.out
     ·exact hq.out j (by omega)),byH,byB⟩
    case measure=>simp [intOf];omega
   ·go_ret
    exact ⟨ret_int ((hqi.out (by rw [R.out];decide)).trans R.out).symm,byB⟩
  ·obtain rfl:i=c.chans.length:=by omega
   have R:=zH (RN.out hq.out)
   go_wp2
   go_ret
   exact ⟨ret_int R.out.symm,hbr⟩
theorem configCheck (c:TCfg)(S:TCfgS)(B:Nat)(w:World)(hB:B≤w.heap.size)(hs:TCfg.At (Low B) w c S):
  Calls Tryd.prog 29 #[.agg #[.int .i64 c.sets,.int .i64 c.ways,.int .i64 c.doms,.int .i64 c.pad,.int .i64 c.quantum,.slice S.a0 c.slots.length S.n0,.slice S.a1 c.owners.length S.n1,.slice S.a2 c.chans.length S.n2,.slice S.a3 c.tasks.length S.n3]] w fun e w'=>e= .returned (.int .i64 (checkConfig c))∧Below w.heap.size w w':=by
 have H1:=zH (fun W (h:Below w.heap.size w W)=>configHead c S _ W (hs.next hB h))
 cases e1:decide (headErr c=0)
 ·have e1:headErr c≠0:=by simpa using e1
  have R:=zH (show checkConfig c=headErr c by unfold checkConfig thenE;rw [if_neg e1])
  have b1:(headErr c==0)=false:=by simp [e1]
  clear hs e1
  generalize headErr c=HE at*
  go_enter Tryd.func29,Tryd.ntmps29
  go_wp2_with (go_at_call 42;refine (H1.out _ byB).mono ?_;rintro e w1 ⟨rfl,hb1⟩)
  go_ret
  exact ⟨ret_int R.out.symm,byB⟩
 ·have e1:headErr c=0:=by simpa using e1
  obtain ⟨_,_,⟨h1,h4⟩,_⟩:=head_ok e1
  have H2:=zH (fun W (h:Below w.heap.size w W)=>configSlots c S h1 h4 B W (Nat.le_trans hB h.size) (hs.next hB h))
  have H3:=zH (fun W (h:Below w.heap.size w W)=>configOwners c S h1 h4 B W (Nat.le_trans hB h.size) (hs.next hB h))
  have H4:=zH (fun W (h:Below w.heap.size w W)=>configChannels c S h1 h4 B W (Nat.le_trans hB h.size) (hs.next hB h))
  have H5:=zH (fun W (h:Below w.heap.size w W)=>configTasks c S h1 h4 B W (Nat.le_trans hB h.size) (hs.next hB h))
  have R:=show checkConfig c=thenE (slotsErr c) (thenE (ownersErr c) (thenE (chansErr c) (tasksErr c))) by unfold checkConfig;rw [e1];rfl
  rw [R]
  rw [e1] at H1
  clear hs e1 R
  have hor:(slotsErr c≠0∧thenE (slotsErr c) (thenE (ownersErr c) (thenE (chansErr c) (tasksErr c)))=slotsErr c)∨(slotsErr c=0∧ownersErr c≠0∧thenE (slotsErr c) (thenE (ownersErr c) (thenE (chansErr c) (tasksErr c)))=ownersErr c)∨
   (slotsErr c=0∧ownersErr c=0∧chansErr c≠0∧thenE (slotsErr c) (thenE (ownersErr c) (thenE (chansErr c) (tasksErr c)))=chansErr c)∨(slotsErr c=0∧ownersErr c=0∧chansErr c=0∧thenE (slotsErr c) (thenE (ownersErr c) (thenE (chansErr c) (tasksErr c)))=tasksErr c):=by
   unfold thenE
   by_cases e2:slotsErr c=0<;>by_cases e3:ownersErr c=0<;>by_cases e4:chansErr c=0<;>simp [e2,e3,e4]
  generalize slotsErr c=E1 at*
  generalize ownersErr c=E2 at*
  generalize chansErr c=E3 at*
  generalize tasksErr c=E4 at*
  rcases hor with ⟨x1,x2⟩|⟨rfl,x1,x2⟩|⟨rfl,rfl,x1,x2⟩|⟨rfl,rfl,rfl,x2⟩
  ·have b1:(E1==0)=false:=by simp [x1]
   rw [x2]
   clear x1 x2
   go_enter Tryd.func29,Tryd.ntmps29
   go_wp2_with fail
   (go_at_call 42;refine (H1.out _ byB).mono ?_;rintro e w1 ⟨rfl,hb_w1⟩;refine kbb (show w1.heap[w.heap.size]?=some (.cells #[.int .i64 c.sets,.int .i64 c.ways,.int .i64 c.doms,.int .i64 c.pad,.int .i64 c.quantum,.slice S.a0 c.slots.length S.n0,.slice S.a1 c.owners.length S.n1,.slice S.a2 c.chans.length S.n2,.slice S.a3 c.tasks.length S.n3] 27) from (hb_w1.block _ byS).trans byH) (fun a_w1 ca_w1 fa_w1 za_w1=>?_);refine armT w hb_w1 (fun h_w1 s_w1 t_w1 hb_w1=>?_);(try simp at t_w1))
   go_wp2_with fail
   (go_at_call 43;refine (H2.out _ byB).mono ?_;rintro e w2 ⟨rfl,hb_w2⟩;refine kbb (kb a_w1 hb_w2) (fun a_w2 ca_w2 fa_w2 za_w2=>?_);refine armT w hb_w2 (fun h_w2 s_w2 t_w2 hb_w2=>?_);(try simp at t_w2);clear a_w1 ca_w1 fa_w1)
   go_wp2_with fail
   go_ret
   exact ⟨rfl,byB⟩
  ·have b1:(E2==0)=false:=by simp [x1]
   rw [x2]
   clear x1 x2
   go_enter Tryd.func29,Tryd.ntmps29
   go_wp2_with fail
   (go_at_call 42;refine (H1.out _ byB).mono ?_;rintro e w1 ⟨rfl,hb_w1⟩;refine kbb (show w1.heap[w.heap.size]?=some (.cells #[.int .i64 c.sets,.int .i64 c.ways,.int .i64 c.doms,.int .i64 c.pad,.int .i64 c.quantum,.slice S.a0 c.slots.length S.n0,.slice S.a1 c.owners.length S.n1,.slice S.a2 c.chans.length S.n2,.slice S.a3 c.tasks.length S.n3] 27) from (hb_w1.block _ byS).trans byH) (fun a_w1 ca_w1 fa_w1 za_w1=>?_);refine armT w hb_w1 (fun h_w1 s_w1 t_w1 hb_w1=>?_);(try simp at t_w1))
   go_wp2_with fail
   (go_at_call 43;refine (H2.out _ byB).mono ?_;rintro e w2 ⟨rfl,hb_w2⟩;refine kbb (kb a_w1 hb_w2) (fun a_w2 ca_w2 fa_w2 za_w2=>?_);refine armT w hb_w2 (fun h_w2 s_w2 t_w2 hb_w2=>?_);(try simp at t_w2);clear a_w1 ca_w1 fa_w1)
   go_wp2_with fail
   (go_at_call 44;refine (H3.out _ byB).mono ?_;rintro e w3 ⟨rfl,hb_w3⟩;refine kbb (kb a_w2 hb_w3) (fun a_w3 ca_w3 fa_w3 za_w3=>?_);refine armT w hb_w3 (fun h_w3 s_w3 t_w3 hb_w3=>?_);(try simp at t_w3);clear a_w2 ca_w2 fa_w2)
   go_wp2_with fail
   go_ret
   exact ⟨rfl,byB⟩
  ·have b1:(E3==0)=false:=by simp [x1]
   rw [x2]
   clear x1 x2
   go_enter Tryd.func29,Tryd.ntmps29
   go_wp2_with fail
   (go_at_call 42;refine (H1.out _ byB).mono ?_;rintro e w1 ⟨rfl,hb_w1⟩;refine kbb (show w1.heap[w.heap.size]?=some (.cells #[.int .i64 c.sets,.int .i64 c.ways,.int .i64 c.doms,.int .i64 c.pad,.int .i64 c.quantum,.slice S.a0 c.slots.length S.n0,.slice S.a1 c.owners.length S.n1,.slice S.a2 c.chans.length S.n2,.slice S.a3 c.tasks.length S.n3] 27) from (hb_w1.block _ byS).trans byH) (fun a_w1 ca_w1 fa_w1 za_w1=>?_);refine armT w hb_w1 (fun h_w1 s_w1 t_w1 hb_w1=>?_);(try simp at t_w1))
   go_wp2_with fail
   (go_at_call 43;refine (H2.out _ byB).mono ?_;rintro e w2 ⟨rfl,hb_w2⟩;refine kbb (kb a_w1 hb_w2) (fun a_w2 ca_w2 fa_w2 za_w2=>?_);refine armT w hb_w2 (fun h_w2 s_w2 t_w2 hb_w2=>?_);(try simp at t_w2);clear a_w1 ca_w1 fa_w1)
   go_wp2_with fail
   (go_at_call 44;refine (H3.out _ byB).mono ?_;rintro e w3 ⟨rfl,hb_w3⟩;refine kbb (kb a_w2 hb_w3) (fun a_w3 ca_w3 fa_w3 za_w3=>?_);refine armT w hb_w3 (fun h_w3 s_w3 t_w3 hb_w3=>?_);(try simp at t_w3);clear a_w2 ca_w2 fa_w2)
   go_wp2_with fail
   (go_at_call 45;refine (H4.out _ byB).mono ?_;rintro e w4 ⟨rfl,hb_w4⟩;refine kbb (kb a_w3 hb_w4) (fun a_w4 ca_w4 fa_w4 za_w4=>?_);refine armT w hb_w4 (fun h_w4 s_w4 t_w4 hb_w4=>?_);(try simp at t_w4);clear a_w3 ca_w3 fa_w3)
   go_wp2_with fail
   go_ret
   exact ⟨rfl,byB⟩
  ·rw [x2]
   clear x2
   go_enter Tryd.func29,Tryd.ntmps29
   go_wp2_with fail
   (go_at_call 42;refine (H1.out _ byB).mono ?_;rintro e w1 ⟨rfl,hb_w1⟩;refine kbb (show w1.heap[w.heap.size]?=some (.cells #[.int .i64 c.sets,.int .i64 c.ways,.int .i64 c.doms,.int .i64 c.pad,.int .i64 c.quantum,.slice S.a0 c.slots.length S.n0,.slice S.a1 c.owners.length S.n1,.slice S.a2 c.chans.length S.n2,.slice S.a3 c.tasks.length S.n3] 27) from (hb_w1.block _ byS).trans byH) (fun a_w1 ca_w1 fa_w1 za_w1=>?_);refine armT w hb_w1 (fun h_w1 s_w1 t_w1 hb_w1=>?_);(try simp at t_w1))
   go_wp2_with fail
   (go_at_call 43;refine (H2.out _ byB).mono ?_;rintro e w2 ⟨rfl,hb_w2⟩;refine kbb (kb a_w1 hb_w2) (fun a_w2 ca_w2 fa_w2 za_w2=>?_);refine armT w hb_w2 (fun h_w2 s_w2 t_w2 hb_w2=>?_);(try simp at t_w2);clear a_w1 ca_w1 fa_w1)
   go_wp2_with fail
   (go_at_call 44;refine (H3.out _ byB).mono ?_;rintro e w3 ⟨rfl,hb_w3⟩;refine kbb (kb a_w2 hb_w3) (fun a_w3 ca_w3 fa_w3 za_w3=>?_);refine armT w hb_w3 (fun h_w3 s_w3 t_w3 hb_w3=>?_);(try simp at t_w3);clear a_w2 ca_w2 fa_w2)
   go_wp2_with fail
   (go_at_call 45;refine (H4.out _ byB).mono ?_;rintro e w4 ⟨rfl,hb_w4⟩;refine kbb (kb a_w3 hb_w4) (fun a_w4 ca_w4 fa_w4 za_w4=>?_);refine armT w hb_w4 (fun h_w4 s_w4 t_w4 hb_w4=>?_);(try simp at t_w4);clear a_w3 ca_w3 fa_w3)
   go_wp2_with fail
   (go_at_call 46;refine (H5.out _ byB).mono ?_;rintro e w5 ⟨rfl,hb_w5⟩;refine kbb (kb a_w4 hb_w5) (fun a_w5 ca_w5 fa_w5 za_w5=>?_);refine armT w hb_w5 (fun h_w5 s_w5 t_w5 hb_w5=>?_);(try simp at t_w5);clear a_w4 ca_w4 fa_w4)
   go_wp2_with fail
   go_ret
   exact ⟨rfl,byB⟩
def intCells (xs:List Int):Array Value:=(xs.map fun n=>Value.int .i64 n).toArray
theorem intCells_made (n:Nat):madeCells (Value.int .i64 0).cells (n*1)=intCells (List.replicate n 0):=by
 apply Array.toList_inj.1
 have:=madeCells_flat #[Value.int .i64 0] n (by simp)
 rw [show (#[Value.int .i64 0]:Array Value).size=1 from rfl] at this
 rw [show (Value.int .i64 0).cells=#[Value.int .i64 0] from rfl,this]
 unfold intCells
 simp
theorem intCells_at {xs:List Int}{k:Nat}(h:k < xs.length):(intCells xs)[k]?=some (.int .i64 (nth xs k)):=by
 rw [nth_eq h];simp [intCells,h]
theorem intCells_set (xs:List Int)(k:Nat)(v:Int):(intCells xs).setIfInBounds k (.int .i64 v)=intCells (xs.set k v):=by
 simp [intCells,List.map_set]
theorem sl_ints {I:Nat→Prop}{w:World}{g:Nat}{t:TypeId}{xs:List Int}(h:w.heap[g]?=some (.cells (intCells xs) t (0,0)))(hI:I g)(hm:xs.length≤maxLen):Sl cInt I w (some ⟨g,0,none⟩) xs.length xs:=by
 refine ⟨Nat.le_refl _,hm,fun e=>(by cases e),fun i hi=>⟨g,0,[.int .i64 xs[i]],rfl,hI,rfl,fun j u hu=>?_⟩⟩
 rw [(blk h).1]
 rcases j with _|j
 ·simp at hu;subst hu
  show (intCells xs)[0+i*1+0]?=_
  rw [Nat.zero_add,Nat.mul_one,Nat.add_zero,intCells_at hi,nth_eq hi]
 ·simp at hu
theorem mailRight (c:TCfg)(S:TCfgS)(l:List TArr)(A:Option Addr)(n:Nat)(B:Nat)(w:World)(hB:B≤w.heap.size)(hs:TCfg.At (Low B) w c S)(hl:Sl cArr (Low B) w A n l):
  Calls Tryd.prog 30 #[.agg #[.int .i64 c.sets,.int .i64 c.ways,.int .i64 c.doms,.int .i64 c.pad,.int .i64 c.quantum,.slice S.a0 c.slots.length S.n0,.slice S.a1 c.owners.length S.n1,.slice S.a2 c.chans.length S.n2,.slice S.a3 c.tasks.length S.n3],.slice A l.length n] w fun e w'=>e= .returned (.int .i64 (checkArrivals c l))∧Below w.heap.size w w':=by
 obtain ⟨m0,m1,m2,m3⟩:=cfg_len hs
 have ml:=Nat.le_trans hl.cap hl.max
 unfold maxLen at ml
 have hw:IntKind.i64.wrap ((c.owners.length:Int) - 1)=(c.owners.length:Int) - 1:=IntWalk.i64_in _ (by omega)
 clear hs
 by_cases hm:40 < l.length
 ·have R:=zH (show checkArrivals c l=2 by unfold checkArrivals;rw [if_pos hm])
  have hd:decide (40 < (l.length:Int))=true:=by simp;omega
  clear hm
  go_enter Tryd.func30,Tryd.ntmps30
  go_wp2
  go_ret
  exact ⟨ret_int R.out.symm,byB⟩
 have R0:=show checkArrivals c l=firstE l.length fun i=>arrErr c.owners.length (nth l i) by unfold checkArrivals;rw [if_neg hm]
 have hd:decide (40 < (l.length:Int))=false:=by simp;omega
 have RH:=zH (fun i hi (hq:∀j,j < i→arrErr c.owners.length (nth l j)=0) (h:arrErr c.owners.length (nth l i)≠0)=>show checkArrivals c l=arrErr c.owners.length (nth l i) from R0.trans (firstE_hit hi hq h))
 have RN:=zH (fun (hq:∀j,j < l.length→arrErr c.owners.length (nth l j)=0)=>show checkArrivals c l=0 from R0.trans (firstE_none hq))
 clear R0 hm
 go_enter Tryd.func30,Tryd.ntmps30
 go_wp2
 go_loopw [12] (fun iv wr=>∃i:Nat,i≤l.length∧iv= .int .i64 i∧Hid (∀j,j < i→arrErr c.owners.length (nth l j)=0)∧wr.heap[w.heap.size]?=some (.cells #[.int .i64 c.sets,.int .i64 c.ways,.int .i64 c.doms,.int .i64 c.pad,.int .i64 c.quantum,.slice S.a0 c.slots.length S.n0,.slice S.a1 c.owners.length S.n1,.slice S.a2 c.chans.length S.n2,.slice S.a3 c.tasks.length S.n3] 27)∧Below w.heap.size w wr) (fun iv _=>l.length - (intOf iv).toNat)
 case atStart=>exact ⟨0,Nat.zero_le _,rfl,(fun j hj=>by omega),byH,byB⟩
 case round=>
  obtain ⟨i,hi,rfl,hq,hp,hbr⟩:=hrel
  obtain ⟨cp,fp,zp⟩:=blk hp
  have so:=hbr.size
  by_cases hlt:i < l.length
  ·obtain ⟨b,o,rfl,hI,hc0,hc1⟩:=(hl.next hB hbr).at_arr hlt
   have hbl:b < w.heap.size:=Nat.lt_of_lt_of_le hI hB
   have hbr':b < wr.heap.size:=by omega
   have hi0:(0:Int)≤i:=by omega
   have hi1:(i:Int) < l.length:=by omega
   cases b1:inB 0 (nth l i).t 100000
   ·have R:=zH ((RH.out i hlt hq.out (by simp [arrErr,b1])).trans (show arrErr c.owners.length (nth l i)=3 by simp [arrErr,b1]))
    go_wp2_with (go_at_call 47;refine (mailWithin _ _ _ _).mono ?_;rintro e w' ⟨rfl,rfl⟩)
    go_ret
    exact ⟨ret_int R.out.symm,byB⟩
   cases b2:inB 0 (nth l i).line ((c.owners.length:Int) - 1)
   ·have R:=zH ((RH.out i hlt hq.out (by simp [arrErr,b1,b2])).trans (show arrErr c.owners.length (nth l i)=5 by simp [arrErr,b1,b2]))
    go_wp2_with (go_at_call 47;refine (mailWithin _ _ _ _).mono ?_;rintro e w' ⟨rfl,rfl⟩)
    go_ret
    exact ⟨ret_int R.out.symm,byB⟩
   have R:=zH (show arrErr c.owners.length (nth l i)=0 by simp [arrErr,b1,b2])
   go_wp2_with (go_at_call 47;refine (mailWithin _ _ _ _).mono ?_;rintro e w' ⟨rfl,rfl⟩)
   go_roundw
   case rel=>exact ⟨i+1,by omega,by go_num,(fun j hj=>by
    by_cases e:j=i
    ·subst e;exact R.out
    ·exact hq.out j (by omega)),byH,byB⟩
   case measure=>simp [intOf];omega
  ·obtain rfl:i=l.length:=by omega
   have R:=zH (RN.out hq.out)
   go_wp2
   go_ret
   exact ⟨ret_int R.out.symm,hbr⟩
def RetInts (xs:List Int) (w:World) (en:Ending) (w':World):Prop:=∃A n,en= .returned (.slice A xs.length n)∧Sl cInt (Rng w.heap.size w'.heap.size) w' A n xs∧Below w.heap.size w w'
theorem mailCame (c:TCfg)(S:TCfgS)(l:List TArr)(dom t0 t1:Int)(h4:c.owners.length≤4)(h40:l.length≤40)(hln:∀i,i < l.length→0≤(nth l i).line∧(nth l i).line < c.owners.length)(A:Option Addr)(n:Nat)(B:Nat)(w:World)(hB:B≤w.heap.size)(hs:TCfg.At (Low B) w c S)(hl:Sl cArr (Low B) w A n l):
  Calls Tryd.prog 60 #[.agg #[.int .i64 c.sets,.int .i64 c.ways,.int .i64 c.doms,.int .i64 c.pad,.int .i64 c.quantum,.slice S.a0 c.slots.length S.n0,.slice S.a1 c.owners.length S.n1,.slice S.a2 c.chans.length S.n2,.slice S.a3 c.tasks.length S.n3],.slice A l.length n,.int .i64 dom,.int .i64 t0,.int .i64 t1] w (RetInts (cameOf c.owners dom t0 t1 l) w):=by
 have hmk:=make_run tyInt c.owners.length (by omega) (by omega)
 have HM:=zH (fun i (hi:i < l.length) (k:Nat) (h:(nth l i).line=(k:Int)) (hlt:k < c.owners.length) (hh:hitA c.owners dom t0 t1 (nth l i)=true)=>show cameOf c.owners dom t0 t1 (l.take (i+1))=(cameOf c.owners dom t0 t1 (l.take i)).set k (nth (cameOf c.owners dom t0 t1 (l.take i)) k+1) by rw [tk_snoc hi];exact cameOf_hit h hlt hh)
 have HX:=zH (fun i (hi:i < l.length) (hh:hitA c.owners dom t0 t1 (nth l i)=false)=>show cameOf c.owners dom t0 t1 (l.take (i+1))=cameOf c.owners dom t0 t1 (l.take i) by rw [tk_snoc hi];exact cameOf_miss hh)
 have HL:=zH (fun i=>cameOf_length c.owners dom t0 t1 (l.take i))
 have HR:=zH (fun i k (hk:k < c.owners.length)=>show 0≤nth (cameOf c.owners dom t0 t1 (l.take i)) k∧nth (cameOf c.owners dom t0 t1 (l.take i)) k≤40 by
  rw [nth_cameOf hk]
  have h1:=cameN_le c.owners dom t0 t1 (l.take i) k
  have h2:(l.take i).length≤l.length:=by rw [List.length_take];omega
  omega)
 have H0:=zH (show cameOf c.owners dom t0 t1 (l.take 0)=List.replicate c.owners.length 0 by rw [List.take_zero];exact cameOf_nil _ _ _ _)
 have HLN:=zH hln
 clear hln
 rw [intCells_made] at hmk
 (obtain ⟨a0,n0,a1,n1,a2,n2,a3,n3⟩:=S;obtain ⟨hs0,hs1,hs2,hs3⟩:=hs;dsimp only at hs0 hs1 hs2 hs3⊢)
 go_enter Tryd.func60,Tryd.ntmps60
 go_wp2_with fail
 go_loopw [20] (fun iv wr=>∃i:Nat,i≤l.length∧iv= .int .i64 i∧wr.heap[w.heap.size]?=some (.cells #[.int .i64 c.sets,.int .i64 c.ways,.int .i64 c.doms,.int .i64 c.pad,.int .i64 c.quantum,.slice a0 c.slots.length n0,.slice a1 c.owners.length n1,.slice a2 c.chans.length n2,.slice a3 c.tasks.length n3] 27)∧wr.heap[w.heap.size+1]?=some (.cells (intCells (cameOf c.owners dom t0 t1 (l.take i))) 3)∧Below w.heap.size w wr) (fun iv _=>l.length - (intOf iv).toNat)
 case atStart=>exact ⟨0,Nat.zero_le _,rfl,byH,by rw [H0.out];exact byH,byB⟩
 case round=>
  obtain ⟨i,hi,rfl,hp,hg,hbr⟩:=hrel
  obtain ⟨cp,fp,zp⟩:=blk hp
  obtain ⟨cg,fg,zg⟩:=blk hg
  have so:=hbr.size
  by_cases hlt:i < l.length
  ·obtain ⟨b,o,rfl,hI,hc0,hc1⟩:=(hl.next hB hbr).at_arr hlt
   obtain ⟨h0,h1⟩:=HLN.out i hlt
   obtain ⟨m,hm⟩:=Int.eq_ofNat_of_zero_le h0
   rw [hm] at hc1 h1
   have hmlt:m < c.owners.length:=by omega
   obtain ⟨b2,o2,rfl,hI2,hcO⟩:=(hs1.next hB hbr).at_int hmlt
   have hbl:b < w.heap.size:=Nat.lt_of_lt_of_le hI hB
   have hbr':b < wr.heap.size:=by omega
   have hbl2:b2 < w.heap.size:=Nat.lt_of_lt_of_le hI2 hB
   have hbr2:b2 < wr.heap.size:=by omega
   have hi0:(0:Int)≤i:=by omega
   have hi1:(i:Int) < l.length:=by omega
   have hm0:(0:Int)≤m:=by omega
   have HMM:=zH hm
   have hh:hitA c.owners dom t0 t1 (nth l i)=((nth c.owners m==dom)&&decide (t0≤(nth l i).t)&&decide ((nth l i).t < t1)):=by unfold hitA;rw [hm];rfl
   clear hm h0
   have hXl:=HL.out i
   have hXr:=HR.out i m hmlt
   have hcg:=(cg m).trans (intCells_at (by rw [hXl];exact hmlt))
   have hMM:=zH (HM.out i hlt m HMM.out hmlt)
   have hXX:=zH (HX.out i hlt)
   rw [hh] at hMM hXX
   clear hh
   generalize cameOf c.owners dom t0 t1 (l.take i)=X at*
   have hwr:IntKind.i64.wrap (nth X m+1)=nth X m+1:=IntWalk.i64_in _ (by omega)
   have hXL:=zH hXl
   clear hXl cg
   cases f1:(nth c.owners m==dom)
   ·have E:=zH (hXX.out (by rw [f1];rfl))
    go_wp2_with fail
    go_roundw
    case rel=>exact ⟨i+1,by omega,by go_num,byH,by rw [E.out];exact byH,byB⟩
    case measure=>simp [intOf];omega
   cases f2:decide (t0≤(nth l i).t)
   ·have E:=zH (hXX.out (by rw [f1,f2];rfl))
    go_wp2_with fail
    go_roundw
    case rel=>exact ⟨i+1,by omega,by go_num,byH,by rw [E.out];exact byH,byB⟩
    case measure=>simp [intOf];omega
   cases f3:decide ((nth l i).t < t1)
   ·have E:=zH (hXX.out (by rw [f1,f2,f3];rfl))
    go_wp2_with fail
    go_roundw
    case rel=>exact ⟨i+1,by omega,by go_num,byH,by rw [E.out];exact byH,byB⟩
    case measure=>simp [intOf];omega
   have E:=zH (hMM.out (by rw [f1,f2,f3];rfl))
   go_wp2_with fail
   go_roundw
   case rel=>
    refine ⟨i+1,by omega,by go_num,byH,?_,byB⟩
    rw [E.out,← intCells_set]
    refine (heap_alloc_old _ _ ?_).trans (heap_set_same ?_)
    ·(first|omega|(simp<;>omega))
    ·exact byH
   case measure=>simp [intOf];omega
  ·obtain rfl:i=l.length:=by omega
   have hXl:=zH (HL.out l.length)
   have hXl2:=zH (cameOf_length c.owners dom t0 t1 l)
   rw [List.take_length] at hg hXl
   go_wp2_with fail
   refine bodyPost_ret (v:= .slice (some ⟨w.heap.size+1,0,none⟩) c.owners.length c.owners.length) (by simp [results,Tryd.results60,go_sem, *]) rfl ?_
   refine ⟨_,_,?_,(sl_ints hg (I:=Rng w.heap.size wr.heap.size) (by simp only [Rng];omega) (by rw [hXl2.out];unfold maxLen;omega)),byB⟩
   rw [hXl2.out]
end
section
set_option maxRecDepth 100000
set_option maxHeartbeats 8000000
theorem turnBegins (c:TCfg)(S:TCfgS)(r s:Int)(ok:CfgOk c)(hr:0≤r∧r≤8)(h:0≤s∧s < c.slots.length)(B:Nat)(w:World)(hB:B≤w.heap.size)(hs:TCfg.At (Low B) w c S):
  Calls Tryd.prog 49 #[.agg #[.int .i64 c.sets,.int .i64 c.ways,.int .i64 c.doms,.int .i64 c.pad,.int .i64 c.quantum,.slice S.a0 c.slots.length S.n0,.slice S.a1 c.owners.length S.n1,.slice S.a2 c.chans.length S.n2,.slice S.a3 c.tasks.length S.n3],.int .i64 r,.int .i64 s] w fun e w'=>e= .returned (.int .i64 (startOf c r s))∧Below w.heap.size w w':=by
 obtain ⟨n,rfl⟩:=Int.eq_ofNat_of_zero_le h.1
 have hn:n < c.slots.length:=by omega
 have n6:=ok.nslots
 have hm:=(startOf_rng ok hr (s:=n) (by omega))
 rw [Int.toNat_natCast] at hm
 have HA:=zH (fun k (h:k < c.slots.length)=>(⟨aheadOf_rng ok k (by omega),aheadOf_rng ok (k+1) (by omega)⟩:_∧_))
 have HR:=zH (show startOf c r n=r*aheadOf c c.slots.length+aheadOf c n from rfl)
 have HM:=zH (show r*roundOf c=r*aheadOf c c.slots.length from rfl)
 rw [HM.out] at hm
 have HS:=zH (fun k=>show aheadOf c (k+1)=aheadOf c k+(nth c.slots k).len from rfl)
 have hwm:IntKind.i64.wrap (r*aheadOf c c.slots.length)=r*aheadOf c c.slots.length:=IntWalk.i64_in _ (by omega)
 have hwn:IntKind.i64.wrap (r*aheadOf c c.slots.length+aheadOf c n)=r*aheadOf c c.slots.length+aheadOf c n:=IntWalk.i64_in _ (by omega)
 clear ok h HM
 (obtain ⟨a0,n0,a1,n1,a2,n2,a3,n3⟩:=S;obtain ⟨hs0,hs1,hs2,hs3⟩:=hs;dsimp only at hs0 hs1 hs2 hs3⊢)
 go_enter Tryd.func49,Tryd.ntmps49
 go_wp2_with fail
 go_loopw [7,8,14] (fun sv av iv wr=>∃i:Nat,i≤c.slots.length∧sv= .int .i64 (aheadOf c i)∧av= .int .i64 (aheadOf c (min i n))∧iv= .int .i64 i∧Below w.heap.size w wr) (fun _ _ iv _=>c.slots.length - (intOf iv).toNat)
 case atStart=>exact ⟨0,Nat.zero_le _,rfl,by simp [aheadOf],rfl,byB⟩
 case round=>
  obtain ⟨i,hi,rfl,rfl,rfl,hbr⟩:=hrel
  have so:=hbr.size
  by_cases hlt:i < c.slots.length
  ·obtain ⟨b1,o1,rfl,hI1,k0,k1⟩:=(hs0.next hB hbr).at_slot hlt
   have hbl:b1 < wr.heap.size:=by have:b1 < B:=hI1;omega
   have i0:(0:Int)≤i:=by omega
   have i1:(i:Int) < c.slots.length:=by omega
   have hA:=HA.out i hlt
   have hS:=HS.out i
   have hw:IntKind.i64.wrap (aheadOf c i+(nth c.slots i).len)=aheadOf c (i+1):=by rw [← hS];exact IntWalk.i64_in _ (by omega)
   replace hS:=zH hS
   by_cases hin:i < n
   ·have i2:(i:Int) < n:=by omega
    rw [show min i n=i by omega]
    go_wp2_with fail
    go_roundw
    case rel=>exact ⟨i+1,by omega,rfl,by rw [show min (i+1) n=i+1 by omega],by go_num,byB⟩
    case measure=>simp [intOf];omega
   ·have i2:¬ (i:Int) < n:=by omega
    have i3:decide (i < n)=false:=by simp;omega
    rw [show min i n=n by omega]
    go_wp2_with fail
    go_roundw
    case rel=>exact ⟨i+1,by omega,rfl,by rw [show min (i+1) n=n by omega],by go_num,byB⟩
    case measure=>simp [intOf];omega
  ·obtain rfl:i=c.slots.length:=by omega
   rw [show min c.slots.length n=n by omega]
   go_wp2_with fail
   go_ret
   exact ⟨ret_int HR.out.symm,hbr⟩
end
end Go.Proofs.YtinlmkhlgclbfabDoor
