/- IdxChan ConfB -/
import Derived.Test.YtinlmkhlgclbfabWv04
import Derived.Test.YtinlmkhlgclbfabWv13
namespace Go.Proofs.Ytinlmkhlgclbfab
open Go.RowKit
section
set_option maxRecDepth 100000
set_option maxHeartbeats 400000
def TellsChan (P:Program) (f:FuncId) (cap:Array Value) (xs:List TChan) (I:Nat→Prop) (p:Nat→Bool) (w:World):Prop:=
 ∀k,k < xs.length→∀w',Below w.heap.size w w'→Calls P f (#[.agg #[.int .i64 (nth xs k).src,.int .i64 (nth xs k).dst,.int .i64 (nth xs k).size]]++cap) w' fun e w''=>e= .returned (.bool (p k))∧Below w'.heap.size w' w''
theorem indexChan (xs:List TChan)(A:Option Addr)(c:Nat)(f:FuncId)(cap:Array Value)(p:Nat→Bool)(B:Nat)(w:World)(hB:B≤w.heap.size)
   (hs:Sl cChan (Low B) w A c xs) (he:Enters Try.prog f) (hf:TellsChan Try.prog f cap xs (Low B) p w):
    Calls Try.prog 143 #[.slice A xs.length c,.func (.func f) #[] cap] w fun e w'=>e= .returned (.int .i64 (findI xs.length p))∧Below w.heap.size w w':=by
  have hm:xs.length≤maxLen:=Nat.le_trans hs.cap hs.max
  unfold maxLen at hm
  unfold Enters at he
  go_enter Try.func143,Try.ntmps143
  go_wp2
  go_loopw [5,8] (fun _ i wr=>∃k:Nat,k≤xs.length∧i= .int .i64 k∧Hid (∀j,j < k→p j=false)∧Below w.heap.size w wr) (fun _ i _=>xs.length - (intOf i).toNat)
  case atStart=>exact ⟨0,Nat.zero_le _,rfl,fun j hj=>by omega,Below.refl _ _⟩
  case round=>
    obtain ⟨k,hk,rfl,hp,hbw⟩:=hrel
    by_cases hlt:k < xs.length
    · obtain ⟨b,o,rfl,hI,hc0,hc1,hc2⟩:=(hs.next hB hbw).at_chan hlt
      go_wp2_with (refine (hf k hlt wr hbw).mono ?_;rintro e w1 ⟨rfl,hb1⟩)
      · have h1:p k=true:=by assumption
        go_ret
        rw [findI_hit hlt hp.out h1]
        exact ⟨rfl,hbw.trans (hb1.mono hbw.size)⟩
      · have h1:p k=false:=by assumption
        go_roundw
        case rel=>exact ⟨k+1,by omega,by go_num,fun j hj=>by
          by_cases e:j=k
          · subst e;exact h1
          · exact hp.out j (by omega),hbw.trans (hb1.mono hbw.size)⟩
        case measure=>simp [intOf];omega
    · go_wp2
      go_ret
      rw [findI_none fun j hj=>hp.out j (by omega)]
      exact ⟨rfl,hbw⟩
theorem containsChan (xs:List TChan)(A:Option Addr)(c:Nat)(f:FuncId)(cap:Array Value)(p:Nat→Bool)(B:Nat)(w:World)(hB:B≤w.heap.size)
   (hs:Sl cChan (Low B) w A c xs) (he:Enters Try.prog f) (hf:TellsChan Try.prog f cap xs (Low B) p w):
    Calls Try.prog 124 #[.slice A xs.length c,.func (.func f) #[] cap] w fun e w'=>e= .returned (.bool (anyI xs.length p))∧Below w.heap.size w w':=by
  have H:=zH (indexChan xs A c f cap p B w hB hs he hf)
  clear hs he hf
  go_enter Try.func124,Try.ntmps124
  go_wp2_with (go_at_call 143;refine H.out.mono ?_;rintro e w1 ⟨rfl,hb1⟩)
  go_ret
  exact ⟨ret_bool (by rw [← findI_any]),hb1⟩
end
section
set_option maxRecDepth 100000
set_option maxHeartbeats 1000000
theorem configChannels1 (x y:TChan)(g:Nat)(w:World)(hg:w.heap[g]?=some (.cells #[.int .i64 x.src,.int .i64 x.dst,.int .i64 x.size] 101)):
  Calls Try.prog 125 #[.agg #[.int .i64 y.src,.int .i64 y.dst,.int .i64 y.size],.pointer (some ⟨g,0,none⟩)] w fun e w'=>e= .returned (.bool (y.src==x.src&&y.dst==x.dst))∧Below w.heap.size w w':=by
 obtain ⟨cp,fp,zp⟩:=blk hg
 go_enter Try.func125,Try.ntmps125
 go_wp2
 all_goals go_ret
 all_goals exact ⟨ret_bool (by simp_all),byB⟩
theorem enters_channels1:Enters Try.prog 125:=fun _ _=>by kernel_rfl
theorem configChannels (c:TCfg)(S:TCfgS)(h1:1≤c.doms)(h4:c.doms≤4)(B:Nat)(w:World)(hB:B≤w.heap.size)(hs:TCfg.At (Low B) w c S):
  Calls Try.prog 89 #[.agg #[.int .i64 c.sets,.int .i64 c.ways,.int .i64 c.doms,.int .i64 c.pad,.int .i64 c.quantum,.slice S.a0 c.slots.length S.n0,.slice S.a1 c.owners.length S.n1,.slice S.a2 c.chans.length S.n2,.slice S.a3 c.tasks.length S.n3]] w fun e w'=>e= .returned (.int .i64 (chansErr c))∧Below w.heap.size w w':=by
 obtain ⟨m0,m1,m2,m3⟩:=cfg_len hs
 have RH:=zH (fun i hi (hq:∀j,j < i→chanErr c.doms c.chans j=0) (h:chanErr c.doms c.chans i≠0)=>show chansErr c=chanErr c.doms c.chans i from firstE_hit hi hq h)
 have RN:=zH (fun (hq:∀j,j < c.chans.length→chanErr c.doms c.chans j=0)=>show chansErr c=0 from firstE_none hq)
 have HD:=zH (fun S d W=>configIsDomain c S d h1 h4 W)
 (obtain ⟨a0,n0,a1,n1,a2,n2,a3,n3⟩:=S;obtain ⟨hs0,hs1,hs2,hs3⟩:=hs;dsimp only at hs0 hs1 hs2 hs3⊢)
 have hcap:=hs2.cap
 go_enter Try.func89,Try.ntmps89
 go_wp2
 go_loopw [8] (fun iv wr=>∃i:Nat,i≤c.chans.length∧iv= .int .i64 i∧Hid (∀j,j < i→chanErr c.doms c.chans j=0)∧wr.heap[w.heap.size]?=some (.cells #[.int .i64 c.sets,.int .i64 c.ways,.int .i64 c.doms,.int .i64 c.pad,.int .i64 c.quantum,.slice a0 c.slots.length n0,.slice a1 c.owners.length n1,.slice a2 c.chans.length n2,.slice a3 c.tasks.length n3] 27)∧Below w.heap.size w wr) (fun iv _=>c.chans.length - (intOf iv).toNat)
 case atStart=>exact ⟨0,Nat.zero_le _,rfl,(fun j hj=>by omega),byH,byB⟩
 case round=>
  obtain ⟨i,hi,rfl,hq,hp,hbr⟩:=hrel
  obtain ⟨cp,fp,zp⟩:=blk hp
  have so:=hbr.size
  by_cases hlt:i < c.chans.length
  ·have hS:=hs2.next hB hbr
   obtain ⟨b,o,rfl,hI,hc0,hc1,hc2⟩:=hS.at_chan hlt
   have hbl:b < w.heap.size:=Nat.lt_of_lt_of_le hI hB
   have hbr':b < wr.heap.size:=by omega
   have hi0:(0:Int)≤i:=by omega
   have hi1:(i:Int) < c.chans.length:=by omega
   have hi2:(i:Int)≤n2:=by omega
   have htk:(c.chans.take i).length=i:=by rw [List.length_take];omega
   have HT:=zH (fun W (h:Below wr.heap.size wr W) (hg:W.heap[wr.heap.size]?=some (.cells #[.int .i64 (nth c.chans i).src,.int .i64 (nth c.chans i).dst,.int .i64 (nth c.chans i).size] 101))=>by
    have h1:=containsChan (c.chans.take i) (some ⟨b,o,none⟩) n2 125 #[.pointer (some ⟨wr.heap.size,0,none⟩)] (fun j=>sameChan c.chans i j) B W (Nat.le_trans (Nat.le_trans hB so) h.size) ((hS.next (Nat.le_trans hB so) h).take i) enters_channels1
     (fun j hj W' hb=>by
      rw [htk] at hj
      rw [nth_take hj]
      exact configChannels1 (nth c.chans i) (nth c.chans j) wr.heap.size W' ((hb.block _ (by obtain ⟨_,_,z⟩:=blk hg;exact z)).trans hg))
    rw [htk] at h1
    exact h1)
   clear hS htk
   cases b1:isDom c.doms (nth c.chans i).src
   ·have R:=zH (show chanErr c.doms c.chans i=5 by unfold chanErr;simp [b1])
    have R:=zH ((RH.out i hlt hq.out (by rw [R.out];decide)).trans R.out)
    go_wp2_with (go_at_call 91;refine (HD.out ⟨_,_,_,_,_,_,_,_⟩ _ _).mono ?_;rintro e w1 ⟨rfl,hb1⟩)
    go_ret
    exact ⟨ret_int R.out.symm,byB⟩
   cases b2:isDom c.doms (nth c.chans i).dst
   ·have R:=zH (show chanErr c.doms c.chans i=5 by unfold chanErr;simp [b2])
    have R:=zH ((RH.out i hlt hq.out (by rw [R.out];decide)).trans R.out)
    go_wp2_with fail
    (go_at_call 91;refine (HD.out ⟨_,_,_,_,_,_,_,_⟩ _ _).mono ?_;rintro e w1 ⟨rfl,hb_w1⟩;refine kbb (show w1.heap[wr.heap.size]?=some (.cells #[.int .i64 (nth c.chans i).src,.int .i64 (nth c.chans i).dst,.int .i64 (nth c.chans i).size] 101) from (hb_w1.block _ byS).trans byH) (fun x_w1 cx_w1 fx_w1 zx_w1=>?_);refine kbb (show w1.heap[w.heap.size]?=some (.cells #[.int .i64 c.sets,.int .i64 c.ways,.int .i64 c.doms,.int .i64 c.pad,.int .i64 c.quantum,.slice a0 c.slots.length n0,.slice a1 c.owners.length n1,.slice (some ⟨b,o,none⟩) c.chans.length n2,.slice a3 c.tasks.length n3] 27) from (hb_w1.block _ byS).trans byH) (fun p_w1 cp_w1 fp_w1 zp_w1=>?_);refine armT w hb_w1 (fun h_w1 s_w1 t_w1 hb_w1=>?_);(try simp at t_w1))
    go_wp2_with (go_at_call 91;refine (HD.out ⟨_,_,_,_,_,_,_,_⟩ _ _).mono ?_;rintro e w2 ⟨rfl,hb2⟩)
    go_ret
    exact ⟨ret_int R.out.symm,byB⟩
   by_cases e3:(nth c.chans i).src=(nth c.chans i).dst
   ·have R:=zH (show chanErr c.doms c.chans i=1 by unfold chanErr;rw [if_neg (by simp [b1,b2]),if_pos e3])
    have R:=zH ((RH.out i hlt hq.out (by rw [R.out];decide)).trans R.out)
    have b3:((nth c.chans i).src==(nth c.chans i).dst)=true:=by simp [e3]
    clear e3
    go_wp2_with fail
    (go_at_call 91;refine (HD.out ⟨_,_,_,_,_,_,_,_⟩ _ _).mono ?_;rintro e w1 ⟨rfl,hb_w1⟩;refine kbb (show w1.heap[wr.heap.size]?=some (.cells #[.int .i64 (nth c.chans i).src,.int .i64 (nth c.chans i).dst,.int .i64 (nth c.chans i).size] 101) from (hb_w1.block _ byS).trans byH) (fun x_w1 cx_w1 fx_w1 zx_w1=>?_);refine kbb (show w1.heap[w.heap.size]?=some (.cells #[.int .i64 c.sets,.int .i64 c.ways,.int .i64 c.doms,.int .i64 c.pad,.int .i64 c.quantum,.slice a0 c.slots.length n0,.slice a1 c.owners.length n1,.slice (some ⟨b,o,none⟩) c.chans.length n2,.slice a3 c.tasks.length n3] 27) from (hb_w1.block _ byS).trans byH) (fun p_w1 cp_w1 fp_w1 zp_w1=>?_);refine armT w hb_w1 (fun h_w1 s_w1 t_w1 hb_w1=>?_);(try simp at t_w1))
    go_wp2_with fail
    (go_at_call 91;refine (HD.out ⟨_,_,_,_,_,_,_,_⟩ _ _).mono ?_;rintro e w2 ⟨rfl,hb_w2⟩;refine kbb (kb x_w1 hb_w2) (fun x_w2 cx_w2 fx_w2 zx_w2=>?_);refine kbb (kb p_w1 hb_w2) (fun p_w2 cp_w2 fp_w2 zp_w2=>?_);refine armT w hb_w2 (fun h_w2 s_w2 t_w2 hb_w2=>?_);(try simp at t_w2);clear x_w1 cx_w1 fx_w1 p_w1 cp_w1 fp_w1)
    go_wp2_with fail
    go_ret
    exact ⟨ret_int R.out.symm,byB⟩
   have b3:((nth c.chans i).src==(nth c.chans i).dst)=false:=by simp [e3]
   cases b4:inB 1 (nth c.chans i).size 4
   ·have R:=zH (show chanErr c.doms c.chans i=3 by unfold chanErr;rw [if_neg (by simp [b1,b2]),if_neg e3,if_pos (by simp [b4])])
    have R:=zH ((RH.out i hlt hq.out (by rw [R.out];decide)).trans R.out)
    clear e3
    go_wp2_with fail
    (go_at_call 91;refine (HD.out ⟨_,_,_,_,_,_,_,_⟩ _ _).mono ?_;rintro e w1 ⟨rfl,hb_w1⟩;refine kbb (show w1.heap[wr.heap.size]?=some (.cells #[.int .i64 (nth c.chans i).src,.int .i64 (nth c.chans i).dst,.int .i64 (nth c.chans i).size] 101) from (hb_w1.block _ byS).trans byH) (fun x_w1 cx_w1 fx_w1 zx_w1=>?_);refine kbb (show w1.heap[w.heap.size]?=some (.cells #[.int .i64 c.sets,.int .i64 c.ways,.int .i64 c.doms,.int .i64 c.pad,.int .i64 c.quantum,.slice a0 c.slots.length n0,.slice a1 c.owners.length n1,.slice (some ⟨b,o,none⟩) c.chans.length n2,.slice a3 c.tasks.length n3] 27) from (hb_w1.block _ byS).trans byH) (fun p_w1 cp_w1 fp_w1 zp_w1=>?_);refine armT w hb_w1 (fun h_w1 s_w1 t_w1 hb_w1=>?_);(try simp at t_w1))
    go_wp2_with fail
    (go_at_call 91;refine (HD.out ⟨_,_,_,_,_,_,_,_⟩ _ _).mono ?_;rintro e w2 ⟨rfl,hb_w2⟩;refine kbb (kb x_w1 hb_w2) (fun x_w2 cx_w2 fx_w2 zx_w2=>?_);refine kbb (kb p_w1 hb_w2) (fun p_w2 cp_w2 fp_w2 zp_w2=>?_);refine armT w hb_w2 (fun h_w2 s_w2 t_w2 hb_w2=>?_);(try simp at t_w2);clear x_w1 cx_w1 fx_w1 p_w1 cp_w1 fp_w1)
    go_wp2_with (go_at_call 121;refine (configWithin _ _ _ _).mono ?_;rintro e w' ⟨rfl,rfl⟩)
    go_ret
    exact ⟨ret_int R.out.symm,byB⟩
   have R0:chanErr c.doms c.chans i=if anyI i (sameChan c.chans i) then 6 else 0:=by unfold chanErr;rw [if_neg (by simp [b1,b2]),if_neg e3,if_neg (by simp [b4])]
   cases b5:anyI i (sameChan c.chans i)
   all_goals
    rw [b5] at HT
    rw [b5] at R0
    have R:=zH R0
    have hqi:=zH (fun (h:chanErr c.doms c.chans i≠0)=>RH.out i hlt hq.out h)
    clear e3 b5 R0
    go_wp2_with fail
    (go_at_call 91;refine (HD.out ⟨_,_,_,_,_,_,_,_⟩ _ _).mono ?_;rintro e w1 ⟨rfl,hb_w1⟩;refine kbb (show w1.heap[wr.heap.size]?=some (.cells #[.int .i64 (nth c.chans i).src,.int .i64 (nth c.chans i).dst,.int .i64 (nth c.chans i).size] 101) from (hb_w1.block _ byS).trans byH) (fun x_w1 cx_w1 fx_w1 zx_w1=>?_);refine kbb (show w1.heap[w.heap.size]?=some (.cells #[.int .i64 c.sets,.int .i64 c.ways,.int .i64 c.doms,.int .i64 c.pad,.int .i64 c.quantum,.slice a0 c.slots.length n0,.slice a1 c.owners.length n1,.slice (some ⟨b,o,none⟩) c.chans.length n2,.slice a3 c.tasks.length n3] 27) from (hb_w1.block _ byS).trans byH) (fun p_w1 cp_w1 fp_w1 zp_w1=>?_);refine armT w hb_w1 (fun h_w1 s_w1 t_w1 hb_w1=>?_);(try simp at t_w1))
    go_wp2_with fail
    (go_at_call 91;refine (HD.out ⟨_,_,_,_,_,_,_,_⟩ _ _).mono ?_;rintro e w2 ⟨rfl,hb_w2⟩;refine kbb (kb x_w1 hb_w2) (fun x_w2 cx_w2 fx_w2 zx_w2=>?_);refine kbb (kb p_w1 hb_w2) (fun p_w2 cp_w2 fp_w2 zp_w2=>?_);refine armT w hb_w2 (fun h_w2 s_w2 t_w2 hb_w2=>?_);(try simp at t_w2);clear x_w1 cx_w1 fx_w1 p_w1 cp_w1 fp_w1)
    go_wp2_with (go_at_call 121;refine (configWithin _ _ _ _).mono ?_;rintro e w' ⟨rfl,rfl⟩)
    (go_at_call 124;refine (HT.out _ byB byH).mono ?_;rintro e w3 ⟨rfl,hb_w3⟩;refine kbb (kb x_w2 hb_w3) (fun x_w3 cx_w3 fx_w3 zx_w3=>?_);refine kbb (kb p_w2 hb_w3) (fun p_w3 cp_w3 fp_w3 zp_w3=>?_);refine armT w hb_w3 (fun h_w3 s_w3 t_w3 hb_w3=>?_);(try simp at t_w3);clear x_w2 cx_w2 fx_w2 p_w2 cp_w2 fp_w2)
    go_wp2_with fail
   ·go_roundw
    case rel=>exact ⟨i+1,by omega,by go_num,(fun j hj=>by
     by_cases e:j=i
     ·subst e;exact R.out
     ·exact hq.out j (by omega)),byH,byB⟩
    case measure=>simp [intOf];omega
   ·go_ret
    exact ⟨ret_int ((hqi.out (by rw [R.out];decide)).trans R.out).symm,byB⟩
  ·obtain rfl:i=c.chans.length:=by omega
   have R:=zH (RN.out hq.out)
   go_wp2
   go_ret
   exact ⟨ret_int R.out.symm,hbr⟩
theorem configCheck (c:TCfg)(S:TCfgS)(B:Nat)(w:World)(hB:B≤w.heap.size)(hs:TCfg.At (Low B) w c S):
  Calls Try.prog 45 #[.agg #[.int .i64 c.sets,.int .i64 c.ways,.int .i64 c.doms,.int .i64 c.pad,.int .i64 c.quantum,.slice S.a0 c.slots.length S.n0,.slice S.a1 c.owners.length S.n1,.slice S.a2 c.chans.length S.n2,.slice S.a3 c.tasks.length S.n3]] w fun e w'=>e= .returned (.int .i64 (checkConfig c))∧Below w.heap.size w w':=by
 have H1:=zH (fun W (h:Below w.heap.size w W)=>configHead c S _ W (hs.next hB h))
 cases e1:decide (headErr c=0)
 ·have e1:headErr c≠0:=by simpa using e1
  have R:=zH (show checkConfig c=headErr c by unfold checkConfig thenE;rw [if_neg e1])
  have b1:(headErr c==0)=false:=by simp [e1]
  clear hs e1
  generalize headErr c=HE at*
  go_enter Try.func45,Try.ntmps45
  go_wp2_with (go_at_call 86;refine (H1.out _ byB).mono ?_;rintro e w1 ⟨rfl,hb1⟩)
  go_ret
  exact ⟨ret_int R.out.symm,byB⟩
 ·have e1:headErr c=0:=by simpa using e1
  obtain ⟨_,_,⟨h1,h4⟩,_⟩:=head_ok e1
  have H2:=zH (fun W (h:Below w.heap.size w W)=>configSlots c S h1 h4 B W (Nat.le_trans hB h.size) (hs.next hB h))
  have H3:=zH (fun W (h:Below w.heap.size w W)=>configOwners c S h1 h4 B W (Nat.le_trans hB h.size) (hs.next hB h))
  have H4:=zH (fun W (h:Below w.heap.size w W)=>configChannels c S h1 h4 B W (Nat.le_trans hB h.size) (hs.next hB h))
  have H5:=zH (fun W (h:Below w.heap.size w W)=>configTasks c S h1 h4 B W (Nat.le_trans hB h.size) (hs.next hB h))
  have R:=show checkConfig c=thenE (slotsErr c) (thenE (ownersErr c) (thenE (chansErr c) (tasksErr c))) by unfold checkConfig;rw [e1];rfl
  rw [R]
  rw [e1] at H1
  clear hs e1 R
  have hor:(slotsErr c≠0∧thenE (slotsErr c) (thenE (ownersErr c) (thenE (chansErr c) (tasksErr c)))=slotsErr c)∨(slotsErr c=0∧ownersErr c≠0∧thenE (slotsErr c) (thenE (ownersErr c) (thenE (chansErr c) (tasksErr c)))=ownersErr c)∨
   (slotsErr c=0∧ownersErr c=0∧chansErr c≠0∧thenE (slotsErr c) (thenE (ownersErr c) (thenE (chansErr c) (tasksErr c)))=chansErr c)∨(slotsErr c=0∧ownersErr c=0∧chansErr c=0∧thenE (slotsErr c) (thenE (ownersErr c) (thenE (chansErr c) (tasksErr c)))=tasksErr c):=by
   unfold thenE
   by_cases e2:slotsErr c=0<;>by_cases e3:ownersErr c=0<;>by_cases e4:chansErr c=0<;>simp [e2,e3,e4]
  generalize slotsErr c=E1 at*
  generalize ownersErr c=E2 at*
  generalize chansErr c=E3 at*
  generalize tasksErr c=E4 at*
  rcases hor with ⟨x1,x2⟩|⟨rfl,x1,x2⟩|⟨rfl,rfl,x1,x2⟩|⟨rfl,rfl,rfl,x2⟩
  ·have b1:(E1==0)=false:=by simp [x1]
   rw [x2]
   clear x1 x2
   go_enter Try.func45,Try.ntmps45
   go_wp2_with fail
   (go_at_call 86;refine (H1.out _ byB).mono ?_;rintro e w1 ⟨rfl,hb_w1⟩;refine kbb (show w1.heap[w.heap.size]?=some (.cells #[.int .i64 c.sets,.int .i64 c.ways,.int .i64 c.doms,.int .i64 c.pad,.int .i64 c.quantum,.slice S.a0 c.slots.length S.n0,.slice S.a1 c.owners.length S.n1,.slice S.a2 c.chans.length S.n2,.slice S.a3 c.tasks.length S.n3] 27) from (hb_w1.block _ byS).trans byH) (fun a_w1 ca_w1 fa_w1 za_w1=>?_);refine armT w hb_w1 (fun h_w1 s_w1 t_w1 hb_w1=>?_);(try simp at t_w1))
   go_wp2_with fail
   (go_at_call 87;refine (H2.out _ byB).mono ?_;rintro e w2 ⟨rfl,hb_w2⟩;refine kbb (kb a_w1 hb_w2) (fun a_w2 ca_w2 fa_w2 za_w2=>?_);refine armT w hb_w2 (fun h_w2 s_w2 t_w2 hb_w2=>?_);(try simp at t_w2);clear a_w1 ca_w1 fa_w1)
   go_wp2_with fail
   go_ret
   exact ⟨rfl,byB⟩
  ·have b1:(E2==0)=false:=by simp [x1]
   rw [x2]
   clear x1 x2
   go_enter Try.func45,Try.ntmps45
   go_wp2_with fail
   (go_at_call 86;refine (H1.out _ byB).mono ?_;rintro e w1 ⟨rfl,hb_w1⟩;refine kbb (show w1.heap[w.heap.size]?=some (.cells #[.int .i64 c.sets,.int .i64 c.ways,.int .i64 c.doms,.int .i64 c.pad,.int .i64 c.quantum,.slice S.a0 c.slots.length S.n0,.slice S.a1 c.owners.length S.n1,.slice S.a2 c.chans.length S.n2,.slice S.a3 c.tasks.length S.n3] 27) from (hb_w1.block _ byS).trans byH) (fun a_w1 ca_w1 fa_w1 za_w1=>?_);refine armT w hb_w1 (fun h_w1 s_w1 t_w1 hb_w1=>?_);(try simp at t_w1))
   go_wp2_with fail
   (go_at_call 87;refine (H2.out _ byB).mono ?_;rintro e w2 ⟨rfl,hb_w2⟩;refine kbb (kb a_w1 hb_w2) (fun a_w2 ca_w2 fa_w2 za_w2=>?_);refine armT w hb_w2 (fun h_w2 s_w2 t_w2 hb_w2=>?_);(try simp at t_w2);clear a_w1 ca_w1 fa_w1)
   go_wp2_with fail
   (go_at_call 88;refine (H3.out _ byB).mono ?_;rintro e w3 ⟨rfl,hb_w3⟩;refine kbb (kb a_w2 hb_w3) (fun a_w3 ca_w3 fa_w3 za_w3=>?_);refine armT w hb_w3 (fun h_w3 s_w3 t_w3 hb_w3=>?_);(try simp at t_w3);clear a_w2 ca_w2 fa_w2)
   go_wp2_with fail
   go_ret
   exact ⟨rfl,byB⟩
  ·have b1:(E3==0)=false:=by simp [x1]
   rw [x2]
   clear x1 x2
   go_enter Try.func45,Try.ntmps45
   go_wp2_with fail
   (go_at_call 86;refine (H1.out _ byB).mono ?_;rintro e w1 ⟨rfl,hb_w1⟩;refine kbb (show w1.heap[w.heap.size]?=some (.cells #[.int .i64 c.sets,.int .i64 c.ways,.int .i64 c.doms,.int .i64 c.pad,.int .i64 c.quantum,.slice S.a0 c.slots.length S.n0,.slice S.a1 c.owners.length S.n1,.slice S.a2 c.chans.length S.n2,.slice S.a3 c.tasks.length S.n3] 27) from (hb_w1.block _ byS).trans byH) (fun a_w1 ca_w1 fa_w1 za_w1=>?_);refine armT w hb_w1 (fun h_w1 s_w1 t_w1 hb_w1=>?_);(try simp at t_w1))
   go_wp2_with fail
   (go_at_call 87;refine (H2.out _ byB).mono ?_;rintro e w2 ⟨rfl,hb_w2⟩;refine kbb (kb a_w1 hb_w2) (fun a_w2 ca_w2 fa_w2 za_w2=>?_);refine armT w hb_w2 (fun h_w2 s_w2 t_w2 hb_w2=>?_);(try simp at t_w2);clear a_w1 ca_w1 fa_w1)
   go_wp2_with fail
   (go_at_call 88;refine (H3.out _ byB).mono ?_;rintro e w3 ⟨rfl,hb_w3⟩;refine kbb (kb a_w2 hb_w3) (fun a_w3 ca_w3 fa_w3 za_w3=>?_);refine armT w hb_w3 (fun h_w3 s_w3 t_w3 hb_w3=>?_);(try simp at t_w3);clear a_w2 ca_w2 fa_w2)
   go_wp2_with fail
   (go_at_call 89;refine (H4.out _ byB).mono ?_;rintro e w4 ⟨rfl,hb_w4⟩;refine kbb (kb a_w3 hb_w4) (fun a_w4 ca_w4 fa_w4 za_w4=>?_);refine armT w hb_w4 (fun h_w4 s_w4 t_w4 hb_w4=>?_);(try simp at t_w4);clear a_w3 ca_w3 fa_w3)
   go_wp2_with fail
   go_ret
   exact ⟨rfl,byB⟩
  ·rw [x2]
   clear x2
   go_enter Try.func45,Try.ntmps45
   go_wp2_with fail
   (go_at_call 86;refine (H1.out _ byB).mono ?_;rintro e w1 ⟨rfl,hb_w1⟩;refine kbb (show w1.heap[w.heap.size]?=some (.cells #[.int .i64 c.sets,.int .i64 c.ways,.int .i64 c.doms,.int .i64 c.pad,.int .i64 c.quantum,.slice S.a0 c.slots.length S.n0,.slice S.a1 c.owners.length S.n1,.slice S.a2 c.chans.length S.n2,.slice S.a3 c.tasks.length S.n3] 27) from (hb_w1.block _ byS).trans byH) (fun a_w1 ca_w1 fa_w1 za_w1=>?_);refine armT w hb_w1 (fun h_w1 s_w1 t_w1 hb_w1=>?_);(try simp at t_w1))
   go_wp2_with fail
   (go_at_call 87;refine (H2.out _ byB).mono ?_;rintro e w2 ⟨rfl,hb_w2⟩;refine kbb (kb a_w1 hb_w2) (fun a_w2 ca_w2 fa_w2 za_w2=>?_);refine armT w hb_w2 (fun h_w2 s_w2 t_w2 hb_w2=>?_);(try simp at t_w2);clear a_w1 ca_w1 fa_w1)
   go_wp2_with fail
   (go_at_call 88;refine (H3.out _ byB).mono ?_;rintro e w3 ⟨rfl,hb_w3⟩;refine kbb (kb a_w2 hb_w3) (fun a_w3 ca_w3 fa_w3 za_w3=>?_);refine armT w hb_w3 (fun h_w3 s_w3 t_w3 hb_w3=>?_);(try simp at t_w3);clear a_w2 ca_w2 fa_w2)
   go_wp2_with fail
   (go_at_call 89;refine (H4.out _ byB).mono ?_;rintro e w4 ⟨rfl,hb_w4⟩;refine kbb (kb a_w3 hb_w4) (fun a_w4 ca_w4 fa_w4 za_w4=>?_);refine armT w hb_w4 (fun h_w4 s_w4 t_w4 hb_w4=>?_);(try simp at t_w4);clear a_w3 ca_w3 fa_w3)
   go_wp2_with fail
   (go_at_call 90;refine (H5.out _ byB).mono ?_;rintro e w5 ⟨rfl,hb_w5⟩;refine kbb (kb a_w4 hb_w5) (fun a_w5 ca_w5 fa_w5 za_w5=>?_);refine armT w hb_w5 (fun h_w5 s_w5 t_w5 hb_w5=>?_);(try simp at t_w5);clear a_w4 ca_w4 fa_w4)
   go_wp2_with fail
   go_ret
   exact ⟨rfl,byB⟩
end
end Go.Proofs.Ytinlmkhlgclbfab
