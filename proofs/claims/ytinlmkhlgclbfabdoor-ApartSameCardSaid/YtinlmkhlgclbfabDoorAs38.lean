/- MachC to MachE -/
import Derived.Test.YtinlmkhlgclbfabDoorAs30
namespace Go.Proofs.YtinlmkhlgclbfabDoor
open Go.RowKit
section
set_option maxRecDepth 100000
set_option maxHeartbeats 8000000
def actsAll (l:List (List TAct)):Int:=firstE l.length fun i=>actsErr (nth l i)
theorem execCheck (c:TCfg)(S:TCfgS)(sc:TScr)(Z:TScrS)(B:Nat)(w:World)(hB:B≤w.heap.size)(hs:TCfg.At (Low B) w c S)(hz:TScr.At (Low B) w sc Z):
  Calls Tryd.prog 16 #[.agg #[.int .i64 c.sets,.int .i64 c.ways,.int .i64 c.doms,.int .i64 c.pad,.int .i64 c.quantum,.slice S.a0 c.slots.length S.n0,.slice S.a1 c.owners.length S.n1,.slice S.a2 c.chans.length S.n2,.slice S.a3 c.tasks.length S.n3],.agg #[.slice Z.a0 sc.actions.length Z.n0,.slice Z.a1 sc.arrivals.length Z.n1,.int .i64 sc.rounds]] w fun e w'=>e= .returned (.int .i64 (checkScript c sc))∧Below w.heap.size w w':=by
 have H1:=zH (fun W (h:Below w.heap.size w W)=>configCheck c S B W (Nat.le_trans hB h.size) (hs.next hB h))
 have H2:=zH (fun W (h:Below w.heap.size w W)=>mailRight c S sc.arrivals Z.a1 Z.n1 B W (Nat.le_trans hB h.size) (hs.next hB h) (hz.s1.next hB h))
 have ml:=Nat.le_trans hz.s0.cap hz.s0.max
 unfold maxLen at ml
 have HL:=zH hz.s0
 clear hs hz
 obtain ⟨Za,Zn,Zb,Zm⟩:=Z
 dsimp only at*
 obtain ⟨acts,arrs,rnd⟩:=sc
 dsimp only at*
 by_cases e1:checkConfig c=0
 ·rw [e1] at H1
  by_cases e2:(acts.length:Int)=c.doms
  ·have b2:((acts.length:Int) !=c.doms)=false:=by simp [e2]
   by_cases e3:inB 0 rnd 8=true
   ·have i3:=inB_true.1 e3
    have b3:decide (rnd < 0)=false:=by simp;omega
    have b4:decide (rnd > 8)=false:=by simp;omega
    have R:checkScript c ⟨acts,arrs,rnd⟩=thenE (checkArrivals c arrs) (actsAll acts):=by unfold checkScript;dsimp only;rw [if_neg (by simp [e1]),if_neg (by simp [e2]),if_neg (by simp [e3])];rfl
    rw [R]
    clear R
    by_cases e4:checkArrivals c arrs=0
    ·rw [e4] at H2⊢
     have R:thenE 0 (actsAll acts)=actsAll acts:=rfl
     rw [R]
     have HH:=zH (fun k (hk:k < acts.length) (h0:∀j,j < k→actsErr (nth acts j)=0) (h1:actsErr (nth acts k)≠0)=>(firstE_hit hk h0 h1:firstE acts.length (fun i=>actsErr (nth acts i))=actsErr (nth acts k)))
     have HZ:=zH (fun (h0:∀j,j < acts.length→actsErr (nth acts j)=0)=>(firstE_none h0:firstE acts.length (fun i=>actsErr (nth acts i))=0))
     unfold actsAll
     clear R e1 e2 e3 e4 i3
     go_enter Tryd.func16,Tryd.ntmps16
     go_wp2_with fail
     (go_at_call 29;refine (H1.out _ byB).mono ?_;rintro e w1 ⟨rfl,hb_w1⟩;refine kbb (show w1.heap[w.heap.size]?=some (.cells #[.int .i64 c.sets,.int .i64 c.ways,.int .i64 c.doms,.int .i64 c.pad,.int .i64 c.quantum,.slice S.a0 c.slots.length S.n0,.slice S.a1 c.owners.length S.n1,.slice S.a2 c.chans.length S.n2,.slice S.a3 c.tasks.length S.n3] 27) from (hb_w1.block _ byS).trans byH) (fun c_w1 cc_w1 fc_w1 zc_w1=>?_);refine kbb (show w1.heap[w.heap.size+1]?=some (.cells #[.slice Za acts.length Zn,.slice Zb arrs.length Zm,.int .i64 rnd] 31) from (hb_w1.block _ byS).trans byH) (fun z_w1 cz_w1 fz_w1 zz_w1=>?_);refine armT w hb_w1 (fun h_w1 s_w1 t_w1 hb_w1=>?_);(try simp at t_w1))
     go_wp2_with fail
     (go_at_call 30;refine (H2.out _ byB).mono ?_;rintro e w2 ⟨rfl,hb_w2⟩;refine kbb (kb c_w1 hb_w2) (fun c_w2 cc_w2 fc_w2 zc_w2=>?_);refine kbb (kb z_w1 hb_w2) (fun z_w2 cz_w2 fz_w2 zz_w2=>?_);refine armT w hb_w2 (fun h_w2 s_w2 t_w2 hb_w2=>?_);(try simp at t_w2);clear c_w1 cc_w1 fc_w1 z_w1 cz_w1 fz_w1)
     go_wp2_with fail
     go_loopw [41] (fun iv wr=>∃i:Nat,i≤acts.length∧iv= .int .i64 i∧Hid (∀j,j < i→actsErr (nth acts j)=0)∧Below w.heap.size w wr) (fun iv _=>acts.length - (intOf iv).toNat)
     case atStart=>exact ⟨0,Nat.zero_le _,rfl,zH (fun j hj=>by omega),h_w2⟩
     case round=>
      obtain ⟨i,hi,rfl,hq,hbr⟩:=hrel
      have so:=hbr.size
      by_cases hlt:i < acts.length
      ·have hi0:(0:Int)≤i:=by omega
       have hi1:(i:Int) < acts.length:=by omega
       have hL:=HL.out.next hB hbr
       obtain ⟨b,o,A',n',rfl,hI,a0,hin⟩:=hL.at_slice hlt
       have hI:=Nat.lt_of_lt_of_le hI hB
       have hbl:b < wr.heap.size:=by omega
       have H3:=zH (fun W (h:Below wr.heap.size wr W)=>windowActions (nth acts i) A' n' B W (by have:=h.size;omega) (hin.next (by omega) h))
       by_cases e1:actsErr (nth acts i)=0
       ·have hq2:Hid (∀j,j < i+1→actsErr (nth acts j)=0):=zH (fun j hj=>by
         by_cases e:j=i
         ·subst e;exact e1
         ·exact hq.out j (by omega))
        rw [e1] at H3
        clear e1 hq HH HZ hin hL
        go_wp2_with fail
        go_at_call 31
        refine (H3.out _ byB).mono ?_
        rintro e w3 ⟨rfl,hb3⟩
        have h3:Below w.heap.size w w3:=byB
        go_wp2_with fail
        exact ⟨⟨i+1,by omega,by go_num,hq2,h3⟩,by simp [intOf];omega⟩
       ·have R:=HH.out i hlt hq.out e1
        have b2:(actsErr (nth acts i) !=0)=true:=by simp [e1]
        replace R:=zH R
        clear e1 hq HH HZ hin hL
        generalize actsErr (nth acts i)=AE at*
        go_wp2_with fail
        go_at_call 31
        refine (H3.out _ byB).mono ?_
        rintro e w3 ⟨rfl,hb3⟩
        have h3:Below w.heap.size w w3:=byB
        go_wp2_with fail
        go_ret
        exact ⟨ret_int R.out.symm,h3⟩
      ·obtain rfl:i=acts.length:=by omega
       have R:=zH (HZ.out hq.out)
       clear HH HZ hq
       go_wp2_with fail
       go_ret
       exact ⟨ret_int R.out.symm,hbr⟩
    ·have R:thenE (checkArrivals c arrs) (actsAll acts)=checkArrivals c arrs:=by unfold thenE;rw [if_neg e4]
     rw [R]
     have b5:(checkArrivals c arrs !=0)=true:=by simp [e4]
     clear R e1 e2 e3 e4 i3
     generalize checkArrivals c arrs=CE at*
     go_enter Tryd.func16,Tryd.ntmps16
     go_wp2_with fail
     (go_at_call 29;refine (H1.out _ byB).mono ?_;rintro e w1 ⟨rfl,hb_w1⟩;refine kbb (show w1.heap[w.heap.size]?=some (.cells #[.int .i64 c.sets,.int .i64 c.ways,.int .i64 c.doms,.int .i64 c.pad,.int .i64 c.quantum,.slice S.a0 c.slots.length S.n0,.slice S.a1 c.owners.length S.n1,.slice S.a2 c.chans.length S.n2,.slice S.a3 c.tasks.length S.n3] 27) from (hb_w1.block _ byS).trans byH) (fun c_w1 cc_w1 fc_w1 zc_w1=>?_);refine kbb (show w1.heap[w.heap.size+1]?=some (.cells #[.slice Za acts.length Zn,.slice Zb arrs.length Zm,.int .i64 rnd] 31) from (hb_w1.block _ byS).trans byH) (fun z_w1 cz_w1 fz_w1 zz_w1=>?_);refine armT w hb_w1 (fun h_w1 s_w1 t_w1 hb_w1=>?_);(try simp at t_w1))
     go_wp2_with fail
     (go_at_call 30;refine (H2.out _ byB).mono ?_;rintro e w2 ⟨rfl,hb_w2⟩;refine kbb (kb c_w1 hb_w2) (fun c_w2 cc_w2 fc_w2 zc_w2=>?_);refine kbb (kb z_w1 hb_w2) (fun z_w2 cz_w2 fz_w2 zz_w2=>?_);refine armT w hb_w2 (fun h_w2 s_w2 t_w2 hb_w2=>?_);(try simp at t_w2);clear c_w1 cc_w1 fc_w1 z_w1 cz_w1 fz_w1)
     go_wp2_with fail
     go_ret
     exact ⟨rfl,h_w2⟩
   ·have R:checkScript c ⟨acts,arrs,rnd⟩=3:=by unfold checkScript;dsimp only;rw [if_neg (by simp [e1]),if_neg (by simp [e2]),if_pos (by simpa using e3)]
    rw [R]
    have e3':rnd < 0∨8 < rnd:=by
     by_cases h:rnd < 0
     ·exact .inl h
     ·refine .inr ?_
      by_cases h2:8 < rnd
      ·exact h2
      ·exact absurd (inB_true.2 ⟨by omega,by omega⟩) e3
    clear R e1 e2 e3
    by_cases f1:rnd < 0
    ·have b3:decide (rnd < 0)=true:=by simpa using f1
     go_enter Tryd.func16,Tryd.ntmps16
     go_wp2_with fail
     (go_at_call 29;refine (H1.out _ byB).mono ?_;rintro e w1 ⟨rfl,hb_w1⟩;refine kbb (show w1.heap[w.heap.size]?=some (.cells #[.int .i64 c.sets,.int .i64 c.ways,.int .i64 c.doms,.int .i64 c.pad,.int .i64 c.quantum,.slice S.a0 c.slots.length S.n0,.slice S.a1 c.owners.length S.n1,.slice S.a2 c.chans.length S.n2,.slice S.a3 c.tasks.length S.n3] 27) from (hb_w1.block _ byS).trans byH) (fun c_w1 cc_w1 fc_w1 zc_w1=>?_);refine kbb (show w1.heap[w.heap.size+1]?=some (.cells #[.slice Za acts.length Zn,.slice Zb arrs.length Zm,.int .i64 rnd] 31) from (hb_w1.block _ byS).trans byH) (fun z_w1 cz_w1 fz_w1 zz_w1=>?_);refine armT w hb_w1 (fun h_w1 s_w1 t_w1 hb_w1=>?_);(try simp at t_w1))
     go_wp2_with fail
     go_ret
     exact ⟨rfl,h_w1⟩
    ·have b3:decide (rnd < 0)=false:=by simpa using f1
     have b4:decide (rnd > 8)=true:=by simp;omega
     go_enter Tryd.func16,Tryd.ntmps16
     go_wp2_with fail
     (go_at_call 29;refine (H1.out _ byB).mono ?_;rintro e w1 ⟨rfl,hb_w1⟩;refine kbb (show w1.heap[w.heap.size]?=some (.cells #[.int .i64 c.sets,.int .i64 c.ways,.int .i64 c.doms,.int .i64 c.pad,.int .i64 c.quantum,.slice S.a0 c.slots.length S.n0,.slice S.a1 c.owners.length S.n1,.slice S.a2 c.chans.length S.n2,.slice S.a3 c.tasks.length S.n3] 27) from (hb_w1.block _ byS).trans byH) (fun c_w1 cc_w1 fc_w1 zc_w1=>?_);refine kbb (show w1.heap[w.heap.size+1]?=some (.cells #[.slice Za acts.length Zn,.slice Zb arrs.length Zm,.int .i64 rnd] 31) from (hb_w1.block _ byS).trans byH) (fun z_w1 cz_w1 fz_w1 zz_w1=>?_);refine armT w hb_w1 (fun h_w1 s_w1 t_w1 hb_w1=>?_);(try simp at t_w1))
     go_wp2_with fail
     go_ret
     exact ⟨rfl,h_w1⟩
  ·have R:checkScript c ⟨acts,arrs,rnd⟩=1:=by unfold checkScript;dsimp only;rw [if_neg (by simp [e1]),if_pos e2]
   rw [R]
   have b2:((acts.length:Int) !=c.doms)=true:=by simp [e2]
   clear R e1 e2
   go_enter Tryd.func16,Tryd.ntmps16
   go_wp2_with fail
   (go_at_call 29;refine (H1.out _ byB).mono ?_;rintro e w1 ⟨rfl,hb_w1⟩;refine kbb (show w1.heap[w.heap.size]?=some (.cells #[.int .i64 c.sets,.int .i64 c.ways,.int .i64 c.doms,.int .i64 c.pad,.int .i64 c.quantum,.slice S.a0 c.slots.length S.n0,.slice S.a1 c.owners.length S.n1,.slice S.a2 c.chans.length S.n2,.slice S.a3 c.tasks.length S.n3] 27) from (hb_w1.block _ byS).trans byH) (fun c_w1 cc_w1 fc_w1 zc_w1=>?_);refine kbb (show w1.heap[w.heap.size+1]?=some (.cells #[.slice Za acts.length Zn,.slice Zb arrs.length Zm,.int .i64 rnd] 31) from (hb_w1.block _ byS).trans byH) (fun z_w1 cz_w1 fz_w1 zz_w1=>?_);refine armT w hb_w1 (fun h_w1 s_w1 t_w1 hb_w1=>?_);(try simp at t_w1))
   go_wp2_with fail
   go_ret
   exact ⟨rfl,h_w1⟩
 ·have R:checkScript c ⟨acts,arrs,rnd⟩=checkConfig c:=by unfold checkScript;rw [if_pos e1]
  rw [R]
  have b1:(checkConfig c !=0)=true:=by simp [e1]
  clear R e1
  generalize checkConfig c=CE at*
  go_enter Tryd.func16,Tryd.ntmps16
  go_wp2_with fail
  (go_at_call 29;refine (H1.out _ byB).mono ?_;rintro e w1 ⟨rfl,hb_w1⟩;refine kbb (show w1.heap[w.heap.size]?=some (.cells #[.int .i64 c.sets,.int .i64 c.ways,.int .i64 c.doms,.int .i64 c.pad,.int .i64 c.quantum,.slice S.a0 c.slots.length S.n0,.slice S.a1 c.owners.length S.n1,.slice S.a2 c.chans.length S.n2,.slice S.a3 c.tasks.length S.n3] 27) from (hb_w1.block _ byS).trans byH) (fun c_w1 cc_w1 fc_w1 zc_w1=>?_);refine kbb (show w1.heap[w.heap.size+1]?=some (.cells #[.slice Za acts.length Zn,.slice Zb arrs.length Zm,.int .i64 rnd] 31) from (hb_w1.block _ byS).trans byH) (fun z_w1 cz_w1 fz_w1 zz_w1=>?_);refine armT w hb_w1 (fun h_w1 s_w1 t_w1 hb_w1=>?_);(try simp at t_w1))
  go_wp2_with fail
  go_ret
  exact ⟨rfl,h_w1⟩
end
section
set_option maxRecDepth 100000
set_option maxHeartbeats 4000000
end
section
set_option maxRecDepth 100000
set_option maxHeartbeats 1000000
theorem dom_len {I:Nat→Prop}{w:World}{d:TDom}{T:TDomS}(h:TDom.At I w d T):d.jobs.length≤9223372036854775807∧d.released.length≤9223372036854775807∧d.ins.length≤9223372036854775807∧d.taken.length≤9223372036854775807∧d.outs.length≤9223372036854775807∧d.events.length≤9223372036854775807:=by
 have h0:=Nat.le_trans h.s0.cap h.s0.max
 have h1:=Nat.le_trans h.s1.cap h.s1.max
 have h2:=Nat.le_trans h.s2.cap h.s2.max
 have h3:=Nat.le_trans h.s3.cap h.s3.max
 have h4:=Nat.le_trans h.s4.cap h.s4.max
 have h5:=Nat.le_trans h.s5.cap h.s5.max
 unfold maxLen at h0 h1 h2 h3 h4 h5
 omega
end
section
set_option maxRecDepth 100000
set_option maxHeartbeats 4000000
set_option maxHeartbeats 8000000
end
section
set_option maxRecDepth 100000
set_option maxHeartbeats 8000000
theorem tyDom:TyS Tryd.prog 33 46 (.agg #[.slice none 0 0,.slice none 0 0,.int .i64 0,.slice none 0 0,.slice none 0 0,.slice none 0 0,.slice none 0 0]) 7 152:=⟨Tryd.underlying33,info_of (by kernel_rfl),rfl,by decide⟩
end
section
set_option maxRecDepth 100000
set_option maxHeartbeats 4000000
def newR4:Code→Option Code
 | .seq a b=>match newR4 a with
  |some c=>some c
  |none=>newR4 b
 | .cond _ a b=>match newR4 a with
  |some c=>some c
  |none=>newR4 b
 | .block _ c=>newR4 c
 | .loop c=>newR4 c
 | .region i o d=>if i==4 then some (.region i o d) else none
 |_=>none
theorem execNewR4 (C:Code)(hC:C=(Tryd.f17.body.bind newR4).getD .skip){B:Nat}{c:TCfg}{S:TCfgS}{sc:TScr}{Z:TScrS}{gm gc:Nat}{ds:List TDom}{last:List Int}{k:List (List TWay)}{F FL FK:Nat→Prop}{A:Option Addr}{n:Nat}{Al:Option Addr}{nl:Nat}{Ak:Option Addr}{nk:Nat}{Wa:World}
  (ok:CfgOk c) (hM:MachW B c S sc Z gm ds last k F FL FK A n Al nl Ak nk Wa) (hgc:Wa.heap[gc]?=some (.cells #[.int .i64 c.sets,.int .i64 c.ways,.int .i64 c.doms,.int .i64 c.pad,.int .i64 c.quantum,.slice S.a0 c.slots.length S.n0,.slice S.a1 c.owners.length S.n1,.slice S.a2 c.chans.length S.n2,.slice S.a3 c.tasks.length S.n3] 27)) (hgc2:B≤gc∧gc≠gm∧∀b,F b∨FL b∨FK b→b≠gc) (hlen:ds.length≤1000)
  {u0 u1 u3 u4 u6 u7 u8 u9 u10 u11 u12 u13 u14 u15 u16 u17 u18 u19 u20 u21 u22 u23 u24 u25 u26 u27 u28 u29 u30 u31 u32 u33 u34:Value} {Q:Exit→Act→World→Prop}
  (hQ:∀(v22 v23 v24 v25 v26 v27 v28 v29 v30 v31 v32:Value) (A':Option Addr) (n':Nat) (F':Nat→Prop) (W':World),MachW B c S sc Z gm (ds++[freshOf c]) last k F' FL FK A' n' Al nl Ak nk W'→Below B Wa W'→W'.heap[gc]?=some (.cells #[.int .i64 c.sets,.int .i64 c.ways,.int .i64 c.doms,.int .i64 c.pad,.int .i64 c.quantum,.slice S.a0 c.slots.length S.n0,.slice S.a1 c.owners.length S.n1,.slice S.a2 c.chans.length S.n2,.slice S.a3 c.tasks.length S.n3] 27)→(∀b,F' b→F b∨Wa.heap.size≤b)→Q .normal ⟨[u0,u1,.pointer (some ⟨gc,0,none⟩),u3,u4,.pointer (some ⟨gm,0,none⟩),u6,u7,u8,u9,u10,u11,u12,u13,u14,u15,u16,u17,u18,u19,u20,u21,v22,v23,v24,v25,v26,v27,v28,v29,v30,v31,v32,u33,u34].toArray,[]⟩ W'):
  Code.wp Tryd.prog C Q ⟨[u0,u1,.pointer (some ⟨gc,0,none⟩),u3,u4,.pointer (some ⟨gm,0,none⟩),u6,u7,u8,u9,u10,u11,u12,u13,u14,u15,u16,u17,u18,u19,u20,u21,u22,u23,u24,u25,u26,u27,u28,u29,u30,u31,u32,u33,u34].toArray,[]⟩ Wa:=by
 subst hC
 replace hQ:=zH hQ
 conv=>arg 2;whnf
 have hB:=hM.size
 have hlo:=hM.lo
 obtain ⟨all,hown,hrow,happ⟩:=doms_step rfl hM.dom
 have hFlt:Hid (∀b,F b→b < Wa.heap.size):=zH fun b hb=>(hM.fp b (.inl hb)).2.1
 have hFlo:Hid (∀b,F b→B≤b):=zH fun b hb=>(hM.fp b (.inl hb)).1
 have hgcF:Hid (¬ F gc):=zH fun h=>hgc2.2.2 gc (.inl h) rfl
 have hgmF:Hid (¬ F gm):=zH fun h=>(hM.fp gm (.inl h)).2.2 rfl
 replace hown:=zH hown
 replace hrow:=zH hrow
 replace happ:=zH happ
 replace hM:=zH hM
 refine wp_region_invT 9 [22,23,24,25,26,27,28,29,30] (fun l f W=>(Below B Wa W∧W.heap[gc]?=some (.cells #[.int .i64 c.sets,.int .i64 c.ways,.int .i64 c.doms,.int .i64 c.pad,.int .i64 c.quantum,.slice S.a0 c.slots.length S.n0,.slice S.a1 c.owners.length S.n1,.slice S.a2 c.chans.length S.n2,.slice S.a3 c.tasks.length S.n3] 27)∧W.heap[gm]?=some (.cells #[.int .i64 c.sets,.int .i64 c.ways,.int .i64 c.doms,.int .i64 c.pad,.int .i64 c.quantum,.slice S.a0 c.slots.length S.n0,.slice S.a1 c.owners.length S.n1,.slice S.a2 c.chans.length S.n2,.slice S.a3 c.tasks.length S.n3,.slice Z.a0 sc.actions.length Z.n0,.slice Z.a1 sc.arrivals.length Z.n1,.int .i64 sc.rounds,.slice A ds.length n,.slice Al last.length nl,.slice Ak k.length nk] 68)∧(∀b,b < Wa.heap.size→¬ F b→W.heap[b]?=Wa.heap[b]?)∧(¬ Lst l 8→∀b,b < Wa.heap.size→W.heap[b]?=Wa.heap[b]?)∧Wa.heap.size≤W.heap.size∧l.size=12)∧Fa l 0 (f 22= .pointer (some ⟨gm,0,none⟩))∧Fa l 1 (f 23= .pointer (some ⟨gm,0,none⟩))∧Fa l 2 (f 24= .pointer (some ⟨gm,0,none⟩))∧Fa l 3 (f 25= .pointer (some ⟨gm,12,none⟩))∧Fa l 4 (f 26= .slice A ds.length n)∧Fa l 5 (f 27= .agg #[.int .i64 c.sets,.int .i64 c.ways,.int .i64 c.doms,.int .i64 c.pad,.int .i64 c.quantum,.slice S.a0 c.slots.length S.n0,.slice S.a1 c.owners.length S.n1,.slice S.a2 c.chans.length S.n2,.slice S.a3 c.tasks.length S.n3])∧Fa l 6 (∃T,f 28= .agg #[.slice T.a0 (freshOf c).jobs.length T.n0,.slice T.a1 (freshOf c).released.length T.n1,.int .i64 (freshOf c).next,.slice T.a2 (freshOf c).ins.length T.n2,.slice T.a3 (freshOf c).taken.length T.n3,.slice T.a4 (freshOf c).outs.length T.n4,.slice T.a5 (freshOf c).events.length T.n5]∧(¬ Lst l 8→∃G,DomO G W (freshOf c) T∧∀j b,G j b→Wa.heap.size≤b))∧Fa l 7 (Lst l 6∧∃g T,f 29= .slice (some ⟨g,0,none⟩) 1 1∧(¬ Lst l 8→W.heap[g]?=some (.cells #[.slice T.a0 (freshOf c).jobs.length T.n0,.slice T.a1 (freshOf c).released.length T.n1,.int .i64 (freshOf c).next,.slice T.a2 (freshOf c).ins.length T.n2,.slice T.a3 (freshOf c).taken.length T.n3,.slice T.a4 (freshOf c).outs.length T.n4,.slice T.a5 (freshOf c).events.length T.n5] 46)∧Wa.heap.size≤g∧∃G,DomO G W (freshOf c) T∧∀j b,G j b→Wa.heap.size≤b))∧Fa l 8 (Lst l 6∧Lst l 7∧∃A' n' F',f 30= .slice A' (ds.length+1) n'∧DomsO F' W (.slice A' (ds.length+1) n') (ds++[freshOf c])∧∀b,F' b→(F b∨Wa.heap.size≤b)∧b < W.heap.size)) (by kernel_rfl) (by decide) (by kernel_rfl) (by kernel_rfl) (by intro s hs;simp at hs⊢;omega) ?_ ?_ ?_
 ·intro l hz hl
  exact ⟨⟨(Below.refl _ _).drew,hgc,hM.out.blk,fun _ _ _=>rfl,fun _ _ _=>rfl,Nat.le_refl _,hz⟩,.no (hl 0),.no (hl 1),.no (hl 2),.no (hl 3),.no (hl 4),.no (hl 5),.no (hl 6),.no (hl 7),.no (hl 8)⟩
 ·simp only [List.take_succ_cons,List.take_zero]
  refine StepsL.c 1 [] (fun l f W hR hn hb K Q2 hK=>?_) ?_
  ·obtain ⟨hS,h0,h1,h2,h3,h4,h5,h6,h7,h8⟩:=hR
   clear hb
   refine ⟨?_⟩
   simp only [pfs] at hK⊢
   go_simp
   refine hK.out _ _ ⟨⟨hS.1,hS.2.1,hS.2.2.1,hS.2.2.2.1,fun h=>hS.2.2.2.2.1 (fun e=>h e.fwd),hS.2.2.2.2.2.1,by simpa using hS.2.2.2.2.2.2⟩,⟨fun _=>rfl⟩,h1.k,h2.k,h3.k,h4.k,h5.k,⟨fun hl=>(let ⟨T,e,h⟩:=(h6.out hl.b);⟨T,e,fun h8=>h (fun e=>h8 e.fwd)⟩)⟩,⟨fun hl=>(let ⟨L,g,T,e,h⟩:=(h7.out hl.b);⟨L.fwd,g,T,e,fun h8=>h (fun e=>h8 e.fwd)⟩)⟩,h8.m⟩
  refine StepsL.c 2 [] (fun l f W hR hn hb K Q2 hK=>?_) ?_
  ·obtain ⟨hS,h0,h1,h2,h3,h4,h5,h6,h7,h8⟩:=hR
   clear hb
   refine ⟨?_⟩
   simp only [pfs] at hK⊢
   go_simp
   refine hK.out _ _ ⟨⟨hS.1,hS.2.1,hS.2.2.1,hS.2.2.2.1,fun h=>hS.2.2.2.2.1 (fun e=>h e.fwd),hS.2.2.2.2.2.1,by simpa using hS.2.2.2.2.2.2⟩,h0.k,⟨fun _=>rfl⟩,h2.k,h3.k,h4.k,h5.k,⟨fun hl=>(let ⟨T,e,h⟩:=(h6.out hl.b);⟨T,e,fun h8=>h (fun e=>h8 e.fwd)⟩)⟩,⟨fun hl=>(let ⟨L,g,T,e,h⟩:=(h7.out hl.b);⟨L.fwd,g,T,e,fun h8=>h (fun e=>h8 e.fwd)⟩)⟩,h8.m⟩
  refine StepsL.c 3 [1] (fun l f W hR hn hb K Q2 hK=>?_) ?_
  ·obtain ⟨hS,h0,h1,h2,h3,h4,h5,h6,h7,h8⟩:=hR
   have q1:=h1.out (hb 1 (by simp))
   clear hb
   refine ⟨?_⟩
   simp only [pfs] at hK⊢
   (try simp only [q1] at hK)
   go_simp
   refine hK.out _ _ ⟨⟨hS.1,hS.2.1,hS.2.2.1,hS.2.2.2.1,fun h=>hS.2.2.2.2.1 (fun e=>h e.fwd),hS.2.2.2.2.2.1,by simpa using hS.2.2.2.2.2.2⟩,h0.k,h1.k,⟨fun _=>rfl⟩,h3.k,h4.k,h5.k,⟨fun hl=>(let ⟨T,e,h⟩:=(h6.out hl.b);⟨T,e,fun h8=>h (fun e=>h8 e.fwd)⟩)⟩,⟨fun hl=>(let ⟨L,g,T,e,h⟩:=(h7.out hl.b);⟨L.fwd,g,T,e,fun h8=>h (fun e=>h8 e.fwd)⟩)⟩,h8.m⟩
  refine StepsL.c 4 [2] (fun l f W hR hn hb K Q2 hK=>?_) ?_
  ·obtain ⟨hS,h0,h1,h2,h3,h4,h5,h6,h7,h8⟩:=hR
   have q2:=h2.out (hb 2 (by simp))
   clear hb
   refine ⟨?_⟩
   simp only [pfs] at hK⊢
   (try simp only [q2] at hK)
   go_simp
   refine hK.out _ _ ⟨⟨hS.1,hS.2.1,hS.2.2.1,hS.2.2.2.1,fun h=>hS.2.2.2.2.1 (fun e=>h e.fwd),hS.2.2.2.2.2.1,by simpa using hS.2.2.2.2.2.2⟩,h0.k,h1.k,h2.k,⟨fun _=>rfl⟩,h4.k,h5.k,⟨fun hl=>(let ⟨T,e,h⟩:=(h6.out hl.b);⟨T,e,fun h8=>h (fun e=>h8 e.fwd)⟩)⟩,⟨fun hl=>(let ⟨L,g,T,e,h⟩:=(h7.out hl.b);⟨L.fwd,g,T,e,fun h8=>h (fun e=>h8 e.fwd)⟩)⟩,h8.m⟩
  refine StepsL.c 5 [3] (fun l f W hR hn hb K Q2 hK=>?_) ?_
  ·obtain ⟨hS,h0,h1,h2,h3,h4,h5,h6,h7,h8⟩:=hR
   have q3:=h3.out (hb 3 (by simp))
   clear hb
   refine ⟨?_⟩
   simp only [pfs] at hK⊢
   (try simp only [q3] at hK)
   obtain ⟨cS,fS,zS⟩:=blk hS.2.2.1
   go_simp
   refine hK.out _ _ ⟨⟨hS.1,hS.2.1,hS.2.2.1,hS.2.2.2.1,fun h=>hS.2.2.2.2.1 (fun e=>h e.fwd),hS.2.2.2.2.2.1,by simpa using hS.2.2.2.2.2.2⟩,h0.k,h1.k,h2.k,h3.k,⟨fun _=>rfl⟩,h5.k,⟨fun hl=>(let ⟨T,e,h⟩:=(h6.out hl.b);⟨T,e,fun h8=>h (fun e=>h8 e.fwd)⟩)⟩,⟨fun hl=>(let ⟨L,g,T,e,h⟩:=(h7.out hl.b);⟨L.fwd,g,T,e,fun h8=>h (fun e=>h8 e.fwd)⟩)⟩,h8.m⟩
  refine StepsL.c 6 [] (fun l f W hR hn hb K Q2 hK=>?_) ?_
  ·obtain ⟨hS,h0,h1,h2,h3,h4,h5,h6,h7,h8⟩:=hR
   clear hb
   refine ⟨?_⟩
   simp only [pfs] at hK⊢
   obtain ⟨cS,fS,zS⟩:=blk hS.2.1
   go_simp
   refine hK.out _ _ ⟨⟨hS.1,hS.2.1,hS.2.2.1,hS.2.2.2.1,fun h=>hS.2.2.2.2.1 (fun e=>h e.fwd),hS.2.2.2.2.2.1,by simpa using hS.2.2.2.2.2.2⟩,h0.k,h1.k,h2.k,h3.k,h4.k,⟨fun _=>rfl⟩,⟨fun hl=>(let ⟨T,e,h⟩:=(h6.out hl.b);⟨T,e,fun h8=>h (fun e=>h8 e.fwd)⟩)⟩,⟨fun hl=>(let ⟨L,g,T,e,h⟩:=(h7.out hl.b);⟨L.fwd,g,T,e,fun h8=>h (fun e=>h8 e.fwd)⟩)⟩,h8.m⟩
  refine StepsL.c 7 [5] (fun l f W hR hn hb K Q2 hK=>?_) ?_
  ·obtain ⟨hS,h0,h1,h2,h3,h4,h5,h6,h7,h8⟩:=hR
   have q5:=h5.out (hb 5 (by simp))
   have hz9:=hS.2.2.2.2.2.1
   have hn8:¬ Lst l 8:=fun h=>hn ((h8.out h).1)
   clear hb
   refine ⟨?_⟩
   simp only [pfs] at hK⊢
   (try simp only [q5] at hK)
   have HC:=readyFresh c S ok W
   go_simp
   go_at_call 33
   refine HC.mono ?_
   clear HC
   rintro e w9 ⟨T9,G9,rfl,hO9,hG9,hb9⟩
   try dsimp only
   try simp only [Act.put,List.setIfInBounds_toArray,List.set_cons_zero,List.set_cons_succ]
   refine hK.out _ _ ⟨⟨hS.1.trans (hb9.mono (by omega)),(hb9.block _ (blk hS.2.1).2.2).trans hS.2.1,(hb9.block _ (blk hS.2.2.1).2.2).trans hS.2.2.1,fun b hb hF=>(hb9.block b (by omega)).trans (hS.2.2.2.1 b hb hF),fun h b hb=>(hb9.block b (by omega)).trans (hS.2.2.2.2.1 (fun e=>h e.fwd) b hb),Nat.le_trans hz9 hb9.size,by simpa using hS.2.2.2.2.2.2⟩,h0.k,h1.k,h2.k,h3.k,h4.k,h5.k,⟨fun _=>⟨T9,rfl,fun _=>⟨G9,hO9,fun j b hb=>Nat.le_trans hz9 (hG9 j b hb)⟩⟩⟩,⟨fun hl=>absurd (h7.out hl.b).1 hn⟩,⟨fun hl=>absurd (h8.out hl.b).1 hn⟩⟩
  refine StepsL.c 8 [6] (fun l f W hR hn hb K Q2 hK=>?_) ?_
  ·obtain ⟨hS,h0,h1,h2,h3,h4,h5,h6,h7,h8⟩:=hR
   have q6:=h6.out (hb 6 (by simp))
   have L6:=hb 6 (by simp)
   obtain ⟨T6,e28,hT6⟩:=q6
   have hz9:=hS.2.2.2.2.2.1
   have hn8:¬ Lst l 8:=fun h=>hn ((h8.out h).2.1)
   obtain ⟨G6,hO6,hG6⟩:=hT6 hn8
   clear hb
   refine ⟨?_⟩
   simp only [pfs] at hK⊢
   (try simp only [e28] at hK)
   go_simp
   refine hK.out _ _ ⟨⟨hS.1.alloc (by omega) _,(heap_alloc_old _ _ (blk hS.2.1).2.2).trans hS.2.1,(heap_alloc_old _ _ (blk hS.2.2.1).2.2).trans hS.2.2.1,fun b hb hF=>(heap_alloc_old _ _ (by omega)).trans (hS.2.2.2.1 b hb hF),fun h b hb=>(heap_alloc_old _ _ (by omega)).trans (hS.2.2.2.2.1 (fun e=>h e.fwd) b hb),by simp;omega,by simpa using hS.2.2.2.2.2.2⟩,h0.k,h1.k,h2.k,h3.k,h4.k,h5.k,⟨fun hl=>(let ⟨T,e,h⟩:=(h6.out hl.b);⟨T,e,fun h8=>let ⟨G,a,b⟩:=h (fun e=>h8 e.fwd);⟨G,a.keep (fun j b hb=>heap_alloc_old _ _ (a.lt j b hb)) (by simp),b⟩⟩)⟩,⟨fun _=>⟨L6.fwd,W.heap.size,T6,rfl,fun _=>⟨heapAt _ _ _ rfl,hz9,G6,hO6.keep (fun j b hb=>heap_alloc_old _ _ (hO6.lt j b hb)) (by simp),hG6⟩⟩⟩,⟨fun hl=>absurd (h8.out hl.b).2.1 hn⟩⟩
  refine StepsL.c 9 [4,7,6] (fun l f W hR hn hb K Q2 hK=>?_) ?_
  ·obtain ⟨hS,h0,h1,h2,h3,h4,h5,h6,h7,h8⟩:=hR
   have q4:=h4.out (hb 4 (by simp))
   have q6:=h6.out (hb 6 (by simp))
   have q7:=h7.out (hb 7 (by simp))
   have L6:=hb 6 (by simp)
   have L7:=hb 7 (by simp)
   obtain ⟨_,g7,T7,e29,hT7⟩:=q7
   obtain ⟨hg7,hl7,G7,hO7,hG7⟩:=hT7 hn
   have hz9:=hS.2.2.2.2.2.1
   have hKF:KeepI F Wa W:=fun b hb=>hS.2.2.2.2.1 hn b (hFlt.out b hb)
   clear hb
   refine ⟨?_⟩
   simp only [pfs] at hK⊢
   (try simp only [q4,e29] at hK)
   simp only [q4,e29]
   refine wp_appZ (.tmp 26) (.tmp 29) _ rfl tyDom (.slice A ds.length n) ds.length all (by rfl) (ownZ_keep hown.out fun b hb=>hKF b (hrow.out b hb)) (some ⟨g7,0,none⟩) 1 1 (TDom.cells (freshOf c) T7) (by rfl) (Src.of_new hg7 rfl) (one_dom _ _) (by unfold maxLen;omega) (by omega) (fun A3 c3 w3 own3 gr3 at3=>?_)
   have hz3:=gr3.size
   have hrw:∀b,rowZ (.slice A ds.length n)=some b→F b:=hrow.out
   have hDO:=happ.out W w3 w3 A3 c3 (fun b=>∃j,G7 j b) (fun b=>F b∨(Wa.heap.size≤b∧b < w3.heap.size)) (freshOf c) T7 G7 own3 gr3 at3 hO7 (fun j b hb=>⟨j,hb⟩) hKF (fun b hb ⟨j,hj⟩=>by have:=hG7 j b hj;have:=hFlt.out b hb;omega) (fun b hb=>by rcases hb with hb|⟨j,hj⟩;have:=hFlt.out b hb;omega;exact hO7.lt j b hj) (fun b hb=>by rcases hb with hb|⟨j,hj⟩;exact .inl hb;exact .inr ⟨hG7 j b hj,by have:=hO7.lt j b hj;omega⟩) (fun b hb hlt=> .inr ⟨by omega,hlt⟩) (KeepI.refl _ _)
   simp only [Act.put,List.setIfInBounds_toArray,List.set_cons_zero,List.set_cons_succ]
   refine hK.out _ _ ⟨⟨hS.1.grown gr3 (by omega) (fun k hk=>hFlo.out k (hrw k hk)),(gr3.block _ (blk hS.2.1).2.2 (fun e=>hgcF.out (hrw _ e.symm))).trans hS.2.1,(gr3.block _ (blk hS.2.2.1).2.2 (fun e=>hgmF.out (hrw _ e.symm))).trans hS.2.2.1,fun b hb hF=>(gr3.block b (by omega) (fun e=>hF (hrw _ e.symm))).trans (hS.2.2.2.1 b hb hF),fun h=>absurd (Lst.self (by rw [hS.2.2.2.2.2.2];omega)) h,by omega,by simpa using hS.2.2.2.2.2.2⟩,h0.k,h1.k,h2.k,h3.k,h4.k,h5.k,⟨fun hl=>(let ⟨T,e,h⟩:=(h6.out hl.b);⟨T,e,fun h8=>absurd (Lst.self (by rw [hS.2.2.2.2.2.2];omega)) h8⟩)⟩,⟨fun hl=>(let ⟨L,g,T,e,h⟩:=(h7.out hl.b);⟨L.fwd,g,T,e,fun h8=>absurd (Lst.self (by rw [hS.2.2.2.2.2.2];omega)) h8⟩)⟩,⟨fun _=>⟨L6.fwd,L7.fwd,A3,c3,_,rfl,hDO,fun b hb=>by rcases hb with hb|hb;exact ⟨.inl hb,by have:=hFlt.out b hb;omega⟩;exact ⟨.inr hb.1,hb.2⟩⟩⟩⟩
  exact StepsL.nil
 ·intro l f W hR hall
  obtain ⟨hS,h0,h1,h2,h3,h4,h5,h6,h7,h8⟩:=hR
  have q0:=h0.out (hall 0 (by decide))
  have q1:=h1.out (hall 1 (by decide))
  have q2:=h2.out (hall 2 (by decide))
  have q3:=h3.out (hall 3 (by decide))
  have q4:=h4.out (hall 4 (by decide))
  have q5:=h5.out (hall 5 (by decide))
  have q6:=h6.out (hall 6 (by decide))
  have q7:=h7.out (hall 7 (by decide))
  have q8:=h8.out (hall 8 (by decide))
  clear h0 h1 h2 h3 h4 h5 h6 h7 h8
  simp only [List.drop_succ_cons,List.drop_zero]
  obtain ⟨_,_,A3,n3,F3,e30,hD3,hF3⟩:=q8
  simp only [pfs]
  simp only [q0,e30]
  obtain ⟨cS,fS,zS⟩:=blk hS.2.2.1
  obtain ⟨cX,fX,zX⟩:=blk hS.2.1
  have hS1:=hS.1
  have hS4:=hS.2.2.2.1
  have hSz:=hS.2.2.2.2.2.1
  have hM2:=hS.2.2.1
  have hC2:=hS.2.1
  replace hD3:=zH hD3
  replace hF3:=zH hF3
  replace hS4:=zH hS4
  clear q0 q1 q2 q3 q4 q5 q6 q7 e30 hall hS
  go_wp2_with fail
  have hP:=hM.out.push (hM2.trans hM.out.blk.symm) hS4.out hSz hD3.out hF3.out
  exact hQ.out _ _ _ _ _ _ _ _ _ _ _ A3 n3 F3 _ hP (Below.setCell hS1 hlo _) ((Below.heap_setCell _ _ _ _ hgc2.2.1).trans hC2) fun b hb=>(hF3.out b hb).1
end
end Go.Proofs.YtinlmkhlgclbfabDoor
