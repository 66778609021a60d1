/- LawWinR -/
import Derived.Test.YtinlmkhlgclbfabWv33
import Derived.Test.YtinlmkhlgclbfabWv44
import Derived.Test.YtinlmkhlgclbfabWv46
import Derived.Test.YtinlmkhlgclbfabWv48
namespace Go.Proofs.Ytinlmkhlgclbfab
open Go.RowKit
set_option maxRecDepth 100000
set_option maxHeartbeats 8000000
theorem cacheIs_tt {x:List (List TWay)}{e wn:Int}{y:List (List TWay)}(h1:e=wn)(h2:x=if wn=0 then y else []):cacheIs x e wn y=true:=by unfold cacheIs;simp [h1,h2]
theorem none_sm:∀i,i < ([]:List (List TWay)).length→(nth ([]:List (List TWay)) i).length≤1000000:=fun i hi=>by simp at hi
theorem cache_sm {k:List (List TWay)}(h:CacheOk k):∀i,i < k.length→(nth k i).length≤1000000:=fun i hi=>by have:=h.same i hi;have:=h.w3;omega
theorem winLoop_cache {c:TCfg}{m to_:Int}{l:List TAct}(hc:CfgOk c)(hl:l.length≤60)(ha:∀i,i < l.length→ActOk (nth l i))(ht:to_≤100000):∀(n:Nat) (s:Win),WinIn c m to_ s→CacheOk (winLoop c m l to_ n s).k:=by
 intro n
 induction n with
 |zero=>intro s h;exact h.cache
 |succ n ih=>
  intro s h
  unfold winLoop
  split
  ·exact ih _ (winStep_ok hc hl ha ht h (by assumption)).1
  ·exact h.cache
theorem kb2 {w1 w2:World}{g:Nat}{cs:Array Value}{t:TypeId}(h:w1.heap[g]?=some (.cells cs t))(hb:Below w1.heap.size w1 w2):w2.heap[g]?=some (.cells cs t):=(hb.block _ (blk h).2.2).trans h
theorem winErr_bad {c:TCfg}{m:Int}{d:TDom}{k:List (List TWay)}{l:List TAct}{from_ to_ E:Int}(h:E≠0)(e:winErr c m d k l from_ to_=E):runD c m d k l from_ to_=noDom∧runK c m d k l from_ to_=[]:=
 ⟨by unfold runD;rw [e,if_neg h],by unfold runK;rw [e,if_neg h]⟩
theorem lawWindowRuns0 (c:TCfg)(S:TCfgS)(m:Int)(d:TDom)(T:TDomS)(k:List (List TWay))(A:Option Addr)(n:Nat)(ac:List TAct)(Al:Option Addr)(nl:Nat)(t0 t1:Int)(hz:DomSz d)(hev:d.events.length≤4194304)(B:Nat)(w:World)(hB:B≤w.heap.size)(hs:TCfg.At (Low B) w c S)(hd:TDom.At (Low B) w d T)(hk:Sl cWay.slice (Low B) w A n k)(hA:Sl cAct (Low B) w Al nl ac):
  Calls Try.prog 7 #[.agg #[.int .i64 c.sets,.int .i64 c.ways,.int .i64 c.doms,.int .i64 c.pad,.int .i64 c.quantum,.slice S.a0 c.slots.length S.n0,.slice S.a1 c.owners.length S.n1,.slice S.a2 c.chans.length S.n2,.slice S.a3 c.tasks.length S.n3],.int .i64 m,.agg #[.slice T.a0 d.jobs.length T.n0,.slice T.a1 d.released.length T.n1,.int .i64 d.next,.slice T.a2 d.ins.length T.n2,.slice T.a3 d.taken.length T.n3,.slice T.a4 d.outs.length T.n4,.slice T.a5 d.events.length T.n5],.agg #[.slice A k.length n],.slice Al ac.length nl,.agg #[.int .i64 t0,.int .i64 t1]] w fun en w'=>en= .returned (.bool true)∧Below w.heap.size w w':=by
 have HB:=zH lawWindowBegun
 have HR:=zH (fun W (h:Below w.heap.size w W)=>windowRun c S m d T k A n ac Al nl t0 t1 hz hev B W (Nat.le_trans hB h.size) (hs.next hB h) (hd.next hB h) (hk.next hB h) (hA.next hB h))
 have H2:=zH (fun W (h:Below w.heap.size w W)=>refCheckBoth c S m d T B W (Nat.le_trans hB h.size) (hs.next hB h) (hd.next hB h))
 have H3:=zH (fun W (h:Below w.heap.size w W)=>refCheckCache k A n B W (Nat.le_trans hB h.size) (hk.next hB h))
 have H4:=zH (fun W (h:Below w.heap.size w W)=>refCheckActions ac Al nl B W (Nat.le_trans hB h.size) (hA.next hB h))
 have hbad:winErr c m d k ac t0 t1≠0→runD c m d k ac t0 t1=noDom∧runK c m d k ac t0 t1=[]:=fun h=>winErr_bad h rfl
 have hgood:winErr c m d k ac t0 t1=0→(∀i,i < (runK c m d k ac t0 t1).length→(nth (runK c m d k ac t0 t1) i).length≤1000000)∧∀W,Below w.heap.size w W→w.heap.size+2≤W.heap.size→
   Calls Try.prog 35 #[.agg #[.int .i64 c.sets,.int .i64 c.ways,.int .i64 c.doms,.int .i64 c.pad,.int .i64 c.quantum,.slice S.a0 c.slots.length S.n0,.slice S.a1 c.owners.length S.n1,.slice S.a2 c.chans.length S.n2,.slice S.a3 c.tasks.length S.n3],.int .i64 m,.agg #[.slice T.a0 d.jobs.length T.n0,.slice T.a1 d.released.length T.n1,.int .i64 d.next,.slice T.a2 d.ins.length T.n2,.slice T.a3 d.taken.length T.n3,.slice T.a4 d.outs.length T.n4,.slice T.a5 d.events.length T.n5],.agg #[.slice A k.length n],.slice Al ac.length nl,.int .i64 t0,.int .i64 t1] W (RetWinR (runD c m d k ac t0 t1) (runK c m d k ac t0 t1) W):=fun R=>by
  rw [show runD c m d k ac t0 t1=windowD c m d k ac t0 t1 by unfold runD;rw [if_pos R],show runK c m d k ac t0 t1=windowK c m d k ac t0 t1 by unfold runK;rw [if_pos R]]
  have R1:=R
  unfold winErr at R1
  rw [thenE_zero,thenE_zero,thenE_zero] at R1
  obtain ⟨e1,e2,e3,e4⟩:=R1
  unfold timeErr at e4
  rw [ite_zero (by omega)] at e4
  unfold checkBoth at e1
  rw [thenE_zero] at e1
  have hao:=actsErr_ok e3
  have hcc:=checkCache_ok.1 e2
  have hdo:=domErr_zero.1 e1.2
  have hin:WinIn c m t1 ⟨t0,d,k⟩:=⟨by dsimp only;omega,hdo.toDomOkW,hcc⟩
  have hou:∀j,(nth d.outs j).length≤4194304:=fun j=>by
   by_cases h:j < d.outs.length
   ·have:=(hdo.out j h).1;omega
   ·rw [nth_far (by omega)];exact Nat.zero_le _
  exact ⟨cache_sm (winLoop_cache (checkConfig_ok e1.1) hao.1 hao.2 (by omega) (t1 - t0).toNat _ hin),fun W h h2=>refWindowOf c S m d T k A n ac Al nl t0 t1 (checkConfig_ok e1.1) hao.1 hao.2 (by omega) hin hz hev hou B W (Nat.le_trans (Nat.add_le_add_right hB 2) h2) (hs.next hB h) (hd.next hB h) (hk.next hB h) (hA.next hB h)⟩
 obtain ⟨E,hE⟩:∃E,E=winErr c m d k ac t0 t1:=⟨_,rfl⟩
 rw [← hE] at HR hbad hgood
 unfold winErr at hE
 generalize runD c m d k ac t0 t1=d1 at*
 generalize runK c m d k ac t0 t1=k1 at*
 generalize checkBoth c m d=CB at*
 generalize checkCache k=CK at*
 generalize actsErr ac=CA at*
 replace hbad:=zH hbad
 replace hgood:=zH hgood
 replace hE:=zH hE
 clear hs hd hk hA hz hev
 go_enter Try.func7,Try.ntmps7
 go_wp2_with fail
 (go_at_call 32;refine (HR.out _ byB).mono ?_;rintro e w1 ⟨T1,G1,A1,n1,F1,rfl,hO1,hK1,hG1,hF1,hb_w1⟩;refine kbb (show w1.heap[w.heap.size]?=some (.cells #[.int .i64 c.sets,.int .i64 c.ways,.int .i64 c.doms,.int .i64 c.pad,.int .i64 c.quantum,.slice S.a0 c.slots.length S.n0,.slice S.a1 c.owners.length S.n1,.slice S.a2 c.chans.length S.n2,.slice S.a3 c.tasks.length S.n3] 27) from (hb_w1.block _ byS).trans byH) (fun c_w1 cc_w1 fc_w1 zc_w1=>?_);refine kbb (show w1.heap[w.heap.size+1]?=some (.cells #[.slice T.a0 d.jobs.length T.n0,.slice T.a1 d.released.length T.n1,.int .i64 d.next,.slice T.a2 d.ins.length T.n2,.slice T.a3 d.taken.length T.n3,.slice T.a4 d.outs.length T.n4,.slice T.a5 d.events.length T.n5] 45) from (hb_w1.block _ byS).trans byH) (fun d_w1 cd_w1 fd_w1 zd_w1=>?_);refine kbb (show w1.heap[w.heap.size+2]?=some (.cells #[.slice A k.length n] 63) from (hb_w1.block _ byS).trans byH) (fun k_w1 ck_w1 fk_w1 zk_w1=>?_);refine kbb (show w1.heap[w.heap.size+3]?=some (.cells #[.int .i64 t0,.int .i64 t1] 47) from (hb_w1.block _ byS).trans byH) (fun u_w1 cu_w1 fu_w1 zu_w1=>?_);refine armT w hb_w1 (fun h_w1 s_w1 t_w1 hb_w1=>?_);(try simp at t_w1))
 have hx1:=zH (hO1.read (F:=Low w1.heap.size) (fun i b hb=>hO1.lt i b hb))
 have hy1:Hid (Sl cWay.slice (Low w1.heap.size) w1 A1 n1 k1):=zH ((OSl.read hK1).mono fun b hb=>(hF1 b hb).2)
 clear hO1 hK1 hG1 hF1
 go_wp2_with fail
 (go_at_call 33;refine (H2.out _ byB).mono ?_;rintro e w2 ⟨rfl,hb_w2⟩;refine kbb (kb c_w1 hb_w2) (fun c_w2 cc_w2 fc_w2 zc_w2=>?_);refine kbb (kb d_w1 hb_w2) (fun d_w2 cd_w2 fd_w2 zd_w2=>?_);refine kbb (kb k_w1 hb_w2) (fun k_w2 ck_w2 fk_w2 zk_w2=>?_);refine kbb (kb u_w1 hb_w2) (fun u_w2 cu_w2 fu_w2 zu_w2=>?_);refine kbb (show w2.heap[w1.heap.size]?=some (.cells #[.slice T1.a0 d1.jobs.length T1.n0,.slice T1.a1 d1.released.length T1.n1,.int .i64 d1.next,.slice T1.a2 d1.ins.length T1.n2,.slice T1.a3 d1.taken.length T1.n3,.slice T1.a4 d1.outs.length T1.n4,.slice T1.a5 d1.events.length T1.n5] 45) from (hb_w2.block _ byS).trans byH) (fun x_w2 cx_w2 fx_w2 zx_w2=>?_);refine kbb (show w2.heap[w1.heap.size+1]?=some (.cells #[.slice A1 k1.length n1] 63) from (hb_w2.block _ byS).trans byH) (fun y_w2 cy_w2 fy_w2 zy_w2=>?_);refine armT w hb_w2 (fun h_w2 s_w2 t_w2 hb_w2=>?_);(try simp at t_w2);clear c_w1 cc_w1 fc_w1 d_w1 cd_w1 fd_w1 k_w1 ck_w1 fk_w1 u_w1 cu_w1 fu_w1)
 go_upto_if 38 with (fail)
 go_cut [16] from 19 (fun v wx=>v= .int .i64 (thenE CB CK)∧Below w2.heap.size w2 wx)
 case first=>
  by_cases e1:CB=0
  ·have b1:(CB==0)=true:=by simp [e1]
   go_wp2_with fail
   go_at_call 27
   refine (H3.out _ byB).mono ?_
   rintro e w3 ⟨rfl,hb3⟩
   go_wp2_with fail
   go_meet
   exact ⟨by rw [thenE,if_pos e1],hb3⟩
  ·have b1:(CB==0)=false:=by simp [e1]
   go_wp2_with fail
   go_meet
   exact ⟨by rw [thenE,if_neg e1],Below.refl _ _⟩
 obtain ⟨rfl,hcb⟩:=hcut
 have h12:Below w1.heap.size w1 w2:=byB
 obtain ⟨wA,rfl⟩:∃wA:World,wA=wc:=⟨_,rfl⟩
 have c_wA:=kb2 c_w2 hcb
 obtain ⟨cc_wA,fc_wA,zc_wA⟩:=blk c_wA
 have d_wA:=kb2 d_w2 hcb
 obtain ⟨cd_wA,fd_wA,zd_wA⟩:=blk d_wA
 have k_wA:=kb2 k_w2 hcb
 obtain ⟨ck_wA,fk_wA,zk_wA⟩:=blk k_wA
 have u_wA:=kb2 u_w2 hcb
 obtain ⟨cu_wA,fu_wA,zu_wA⟩:=blk u_wA
 have x_wA:=kb2 x_w2 hcb
 obtain ⟨cx_wA,fx_wA,zx_wA⟩:=blk x_wA
 have y_wA:=kb2 y_w2 hcb
 obtain ⟨cy_wA,fy_wA,zy_wA⟩:=blk y_wA
 have h_wA:Below w.heap.size w wA:=h_w2.trans (hcb.mono s_w2)
 have s_wA:=h_wA.size
 clear c_w2 cc_w2 fc_w2 d_w2 cd_w2 fd_w2 k_w2 ck_w2 fk_w2 u_w2 cu_w2 fu_w2 x_w2 cx_w2 fx_w2 y_w2 cy_w2 fy_w2
 obtain ⟨X,hX⟩:∃X,X=thenE CB CK:=⟨_,rfl⟩
 rw [← hX]
 replace hX:=zH hX
 go_upto_if 42 with (fail)
 go_cut [16] from 19 (fun v wx=>v= .int .i64 (thenE X CA)∧Below wA.heap.size wA wx)
 case first=>
  by_cases e1:X=0
  ·have b1:(X==0)=true:=by simp [e1]
   go_wp2_with fail
   go_at_call 34
   refine (H4.out _ byB).mono ?_
   rintro e w3 ⟨rfl,hb3⟩
   go_wp2_with fail
   go_meet
   exact ⟨by rw [thenE,if_pos e1],hb3⟩
  ·have b1:(X==0)=false:=by simp [e1]
   go_wp2_with fail
   go_meet
   exact ⟨by rw [thenE,if_neg e1],Below.refl _ _⟩
 obtain ⟨rfl,hcb2⟩:=hcut
 have h1B:Below w1.heap.size w1 wc:=(h12.trans (hcb.mono h12.size)).trans (hcb2.mono (by have:=h12.size;have:=hcb.size;omega))
 obtain ⟨wB,rfl⟩:∃wB:World,wB=wc:=⟨_,rfl⟩
 have c_wB:=kb2 c_wA hcb2
 obtain ⟨cc_wB,fc_wB,zc_wB⟩:=blk c_wB
 have d_wB:=kb2 d_wA hcb2
 obtain ⟨cd_wB,fd_wB,zd_wB⟩:=blk d_wB
 have k_wB:=kb2 k_wA hcb2
 obtain ⟨ck_wB,fk_wB,zk_wB⟩:=blk k_wB
 have u_wB:=kb2 u_wA hcb2
 obtain ⟨cu_wB,fu_wB,zu_wB⟩:=blk u_wB
 have x_wB:=kb2 x_wA hcb2
 obtain ⟨cx_wB,fx_wB,zx_wB⟩:=blk x_wB
 have y_wB:=kb2 y_wA hcb2
 obtain ⟨cy_wB,fy_wB,zy_wB⟩:=blk y_wB
 have h_wB:Below w.heap.size w wB:=h_wA.trans (hcb2.mono s_wA)
 have s_wB:=h_wB.size
 clear c_wA cc_wA fc_wA d_wA cd_wA fd_wA k_wA ck_wA fk_wA u_wA cu_wA fu_wA x_wA cx_wA fx_wA y_wA cy_wA fy_wA
 obtain ⟨Y,hY⟩:∃Y,Y=thenE X CA:=⟨_,rfl⟩
 rw [← hY]
 have hEY:E=thenE Y (timeErr t0 t1):=by rw [hE.out,hY,hX.out];unfold thenE;(repeat' split)<;>simp_all
 replace hEY:=zH hEY
 clear hY hX hE H2 H3 H4 HR
 go_upto_region 7 with (fail)
 go_cut [63] from 19 (fun v wx=>v= .bool (decide (Y=0∧(t0 < 0∨t1 < t0∨100000 < t1)))∧wB=wx)
 case first=>
  by_cases e1:Y=0
  ·have b1:(Y==0)=true:=by simp [e1]
   replace e1:=zH e1
   by_cases f1:t0 < 0
   ·have g1:decide (t0 < 0)=true:=by simpa using f1
    go_wp2_with fail
    go_meet
    exact ⟨by simp [e1.out,f1],rfl⟩
   ·have g1:decide (t0 < 0)=false:=by simpa using f1
    by_cases f2:t1 < t0
    ·have g2:decide (t1 < t0)=true:=by simpa using f2
     go_wp2_with fail
     go_meet
     exact ⟨by simp [e1.out,f2],rfl⟩
    ·have g2:decide (t1 < t0)=false:=by simpa using f2
     by_cases f3:100000 < t1
     ·have g3:decide (t1 > 100000)=true:=by simpa using f3
      go_wp2_with fail
      go_meet
      exact ⟨by simp [e1.out,f3],rfl⟩
     ·have g3:decide (t1 > 100000)=false:=by simpa using f3
      go_wp2_with fail
      go_meet
      exact ⟨by simp [e1.out,f1,f2,f3],rfl⟩
  ·have b1:(Y==0)=false:=by simp [e1]
   go_wp2_with fail
   go_meet
   exact ⟨by simp [e1],rfl⟩
 obtain ⟨rfl,rfl⟩:=hcut
 go_upto_if 63 with (fail)
 go_cut [16] from 19 (fun v wx=>v= .int .i64 E∧wB=wx)
 case first=>
  by_cases e1:Y=0∧(t0 < 0∨t1 < t0∨100000 < t1)
  ·have b1:decide (Y=0∧(t0 < 0∨t1 < t0∨100000 < t1))=true:=by simpa using e1
   rw [b1]
   go_wp2_with fail
   go_meet
   exact ⟨by rw [hEY.out,thenE,if_pos e1.1,timeErr,if_pos e1.2],rfl⟩
  ·have b1:decide (Y=0∧(t0 < 0∨t1 < t0∨100000 < t1))=false:=by simpa using e1
   rw [b1]
   go_wp2_with fail
   go_meet
   exact ⟨by
    rw [hEY.out,thenE]
    by_cases y0:Y=0
    ·rw [if_pos y0,timeErr,if_neg (fun h=>e1 ⟨y0,h⟩),y0]
    ·rw [if_neg y0],rfl⟩
 obtain ⟨rfl,rfl⟩:=hcut
 by_cases e1:E=0
 ·obtain ⟨hsm,H5⟩:=hgood.out e1
  replace H5:=zH H5
  have HD:=zH (fun (T1 T2:TDomS) W (h1:TDom.At (Low W.heap.size) W d1 T1) (h2:TDom.At (Low W.heap.size) W d1 T2)=>lawDomainIs d1 T1 T2 0 (fun h=>absurd rfl h) W.heap.size W (Nat.le_refl _) h1 h2)
  have HI:=zH (fun (A1:Option Addr) (n1:Nat) (A2:Option Addr) (n2:Nat) W (h:Sl cWay.slice (Low W.heap.size) W A1 n1 k1) (h2:Sl cWay.slice (Low W.heap.size) W A2 n2 k1)=>lawCacheIs k1 k1 0 0 A1 A2 n1 n2 W.heap.size W (Nat.le_refl _) h h2 hsm)
  rw [cacheIs_tt rfl (by rw [if_pos rfl])] at HI
  clear hgood hbad hEY hsm
  subst e1
  go_wp2_with fail
  (go_at_call 35;refine (H5.out _ byB (by simp;omega)).mono ?_;rintro e w5 ⟨T5,G5,A5,n5,rfl,hO5,hG5,⟨F5,hK5,hF5⟩,hb_w5⟩;refine kbb (show w5.heap[w1.heap.size]?=some (.cells #[.slice T1.a0 d1.jobs.length T1.n0,.slice T1.a1 d1.released.length T1.n1,.int .i64 d1.next,.slice T1.a2 d1.ins.length T1.n2,.slice T1.a3 d1.taken.length T1.n3,.slice T1.a4 d1.outs.length T1.n4,.slice T1.a5 d1.events.length T1.n5] 45) from (hb_w5.block _ byS).trans byH) (fun x_w5 cx_w5 fx_w5 zx_w5=>?_);refine kbb (show w5.heap[w1.heap.size+1]?=some (.cells #[.slice A1 k1.length n1] 63) from (hb_w5.block _ byS).trans byH) (fun y_w5 cy_w5 fy_w5 zy_w5=>?_);refine kbb (show w5.heap[wB.heap.size]?=some (.cells #[.slice none 0 0,.slice none 0 0,.int .i64 0,.slice none 0 0,.slice none 0 0,.slice none 0 0,.slice none 0 0] 45) from (hb_w5.block _ byS).trans byH) (fun z_w5 cz_w5 fz_w5 zz_w5=>?_);refine kbb (show w5.heap[wB.heap.size+1]?=some (.cells #[.slice none 0 0] 63) from (hb_w5.block _ byS).trans byH) (fun q_w5 cq_w5 fq_w5 zq_w5=>?_);refine armT w hb_w5 (fun h_w5 s_w5 t_w5 hb_w5=>?_);(try simp at t_w5))
  go_upto_region 13 with (fail)
  obtain ⟨W6,hW6⟩:∃X,X=((((((((w5.setCell ⟨wB.heap.size,0,none⟩ (.slice T5.a0 d1.jobs.length T5.n0)).setCell ⟨wB.heap.size,1,none⟩ (.slice T5.a1 d1.released.length T5.n1)).setCell ⟨wB.heap.size,2,none⟩ (.int .i64 d1.next)).setCell ⟨wB.heap.size,3,none⟩ (.slice T5.a2 d1.ins.length T5.n2)).setCell ⟨wB.heap.size,4,none⟩ (.slice T5.a3 d1.taken.length T5.n3)).setCell ⟨wB.heap.size,5,none⟩ (.slice T5.a4 d1.outs.length T5.n4)).setCell ⟨wB.heap.size,6,none⟩ (.slice T5.a5 d1.events.length T5.n5)).setCell ⟨wB.heap.size+1,0,none⟩ (.slice A5 k1.length n5)):=⟨_,rfl⟩
  rw [← hW6]
  have z6:W6.heap[wB.heap.size]?=some (.cells #[.slice T5.a0 d1.jobs.length T5.n0,.slice T5.a1 d1.released.length T5.n1,.int .i64 d1.next,.slice T5.a2 d1.ins.length T5.n2,.slice T5.a3 d1.taken.length T5.n3,.slice T5.a4 d1.outs.length T5.n4,.slice T5.a5 d1.events.length T5.n5] 45):=by rw [hW6];exact heap_set_far (dom_set z_w5) (by simp)
  have q6:W6.heap[wB.heap.size+1]?=some (.cells #[.slice A5 k1.length n5] 63):=by
   rw [hW6]
   have:=heap_set_same (i:=0) (u:= .slice A5 k1.length n5) ((dom_far (u0:= .slice T5.a0 d1.jobs.length T5.n0) (u1:= .slice T5.a1 d1.released.length T5.n1) (u2:= .int .i64 d1.next) (u3:= .slice T5.a2 d1.ins.length T5.n2) (u4:= .slice T5.a3 d1.taken.length T5.n3) (u5:= .slice T5.a4 d1.outs.length T5.n4) (u6:= .slice T5.a5 d1.events.length T5.n5) (show wB.heap.size+1≠wB.heap.size by omega)).trans q_w5)
   simpa using this
  have far:∀b,b≠wB.heap.size→b≠wB.heap.size+1→W6.heap[b]?=w5.heap[b]?:=fun b h1 h2=>by rw [hW6];exact raw_far0 h1 h2
  have sz6:W6.heap.size=w5.heap.size:=by rw [hW6];simp
  have zz:=hcb.size
  have zz2:=hcb2.size
  have x6:W6.heap[w1.heap.size]?=some (.cells #[.slice T1.a0 d1.jobs.length T1.n0,.slice T1.a1 d1.released.length T1.n1,.int .i64 d1.next,.slice T1.a2 d1.ins.length T1.n2,.slice T1.a3 d1.taken.length T1.n3,.slice T1.a4 d1.outs.length T1.n4,.slice T1.a5 d1.events.length T1.n5] 45):=(far _ (by omega) (by omega)).trans x_w5
  have y6:W6.heap[w1.heap.size+1]?=some (.cells #[.slice A1 k1.length n1] 63):=(far _ (by omega) (by omega)).trans y_w5
  have h6:Below w.heap.size w W6:=by rw [hW6];exact raw0_below h_w5 (by omega) (by omega)
  have hb15:Below w1.heap.size w1 w5:=byB
  have hx6:TDom.At (Low W6.heap.size) W6 d1 T1:=(hx1.out.keep fun b hb=>(far b (by simp only [Low] at hb;omega) (by simp only [Low] at hb;omega)).trans (hb15.block b hb)).mono fun b hb=>by simp only [Low] at hb⊢;omega
  have hy6:Sl cWay.slice (Low W6.heap.size) W6 A1 n1 k1:=(hy1.out.keep fun b hb=>(far b (by simp only [Low] at hb;omega) (by simp only [Low] at hb;omega)).trans (hb15.block b hb)).mono fun b hb=>by simp only [Low] at hb⊢;omega
  have hz6:TDom.At (Low W6.heap.size) W6 d1 T5:=((hO5.read (F:=fun b=>wB.heap.size+1 < b∧b < w5.heap.size) (fun i b hb=>⟨by have:=hG5 i b hb;simp at this;omega,hO5.lt i b hb⟩)).keep (fun b hb=>far b (by omega) (by omega))).mono fun b hb=>by simp only [Low];omega
  have hq6:Sl cWay.slice (Low W6.heap.size) W6 A5 n5 k1:=(hK5.keep fun b hb=>far b (by have h0:=(hF5 b hb).2;simp at h0;omega) (by have h0:=(hF5 b hb).2;simp at h0;omega)).mono fun b hb=>by have h0:=(hF5 b hb).1;simp only [Low];omega
  have s6:=h6.size
  replace hW6:=zH hW6
  replace hx6:=zH hx6
  replace hy6:=zH hy6
  replace hz6:=zH hz6
  replace hq6:=zH hq6
  clear hO5 hG5 hx1 hy1 hK5 hF5 far
  obtain ⟨cx6,fx6,zx6⟩:=blk x6
  obtain ⟨cy6,fy6,zy6⟩:=blk y6
  obtain ⟨cz6,fz6,zz6⟩:=blk z6
  obtain ⟨cq6,fq6,zq6⟩:=blk q6
  go_wp2_with fail
  (go_at_call 30;refine (HB.out _).mono ?_;rintro e w7 ⟨rfl,hb_w7⟩;refine kbb (show w7.heap[w1.heap.size]?=some (.cells #[.slice T1.a0 d1.jobs.length T1.n0,.slice T1.a1 d1.released.length T1.n1,.int .i64 d1.next,.slice T1.a2 d1.ins.length T1.n2,.slice T1.a3 d1.taken.length T1.n3,.slice T1.a4 d1.outs.length T1.n4,.slice T1.a5 d1.events.length T1.n5] 45) from (hb_w7.block _ byS).trans byH) (fun x_w7 cx_w7 fx_w7 zx_w7=>?_);refine kbb (show w7.heap[w1.heap.size+1]?=some (.cells #[.slice A1 k1.length n1] 63) from (hb_w7.block _ byS).trans byH) (fun y_w7 cy_w7 fy_w7 zy_w7=>?_);refine kbb (show w7.heap[wB.heap.size]?=some (.cells #[.slice T5.a0 d1.jobs.length T5.n0,.slice T5.a1 d1.released.length T5.n1,.int .i64 d1.next,.slice T5.a2 d1.ins.length T5.n2,.slice T5.a3 d1.taken.length T5.n3,.slice T5.a4 d1.outs.length T5.n4,.slice T5.a5 d1.events.length T5.n5] 45) from (hb_w7.block _ byS).trans byH) (fun z_w7 cz_w7 fz_w7 zz_w7=>?_);refine kbb (show w7.heap[wB.heap.size+1]?=some (.cells #[.slice A5 k1.length n5] 63) from (hb_w7.block _ byS).trans byH) (fun q_w7 cq_w7 fq_w7 zq_w7=>?_);refine armT w hb_w7 (fun h_w7 s_w7 t_w7 hb_w7=>?_);(try simp at t_w7))
  go_wp2_with fail
  (go_at_call 20;refine (HD.out T1 T5 _ ((hx6.out.next (Nat.le_refl _) byB).up byS) ((hz6.out.next (Nat.le_refl _) byB).up byS)).mono ?_;rintro e w8 ⟨rfl,hb_w8⟩;refine kbb (kb x_w7 hb_w8) (fun x_w8 cx_w8 fx_w8 zx_w8=>?_);refine kbb (kb y_w7 hb_w8) (fun y_w8 cy_w8 fy_w8 zy_w8=>?_);refine kbb (kb z_w7 hb_w8) (fun z_w8 cz_w8 fz_w8 zz_w8=>?_);refine kbb (kb q_w7 hb_w8) (fun q_w8 cq_w8 fq_w8 zq_w8=>?_);refine armT w hb_w8 (fun h_w8 s_w8 t_w8 hb_w8=>?_);(try simp at t_w8);clear x_w7 cx_w7 fx_w7 y_w7 cy_w7 fy_w7 z_w7 cz_w7 fz_w7 q_w7 cq_w7 fq_w7)
  go_wp2_with fail
  go_at_call 31
  refine (HI.out A1 n1 A5 n5 _ ((hy6.out.next (Nat.le_refl _) byB).up byS) ((hq6.out.next (Nat.le_refl _) byB).up byS)).mono ?_
  rintro e w9 ⟨rfl,hb9⟩
  have h9:Below w.heap.size w w9:=byB
  go_wp2_with fail
  go_ret
  exact ⟨rfl,h9⟩
 ·obtain ⟨rfl,rfl⟩:=hbad.out e1
  have b1:(E==0)=false:=by simp [e1]
  have HD:=zH (show ∀(T1:TDomS) W,TDom.At (Low W.heap.size) W noDom T1→Calls Try.prog 20 #[.agg #[.slice T1.a0 noDom.jobs.length T1.n0,.slice T1.a1 noDom.released.length T1.n1,.int .i64 noDom.next,.slice T1.a2 noDom.ins.length T1.n2,.slice T1.a3 noDom.taken.length T1.n3,.slice T1.a4 noDom.outs.length T1.n4,.slice T1.a5 noDom.events.length T1.n5],.int .i64 E,.int .i64 E,.agg #[.slice none 0 0,.slice none 0 0,.int .i64 0,.slice none 0 0,.slice none 0 0,.slice none 0 0,.slice none 0 0]] W fun e w'=>e= .returned (.bool true)∧Below W.heap.size W w' from fun T1 W h=>lawDomainIs noDom T1 noDomS E (fun _=>rfl) W.heap.size W (Nat.le_refl _) h ((noDom_own W).read fun _ _ h=>h.elim))
  have HI:=zH (fun (A1:Option Addr) (n1:Nat) W (h:Sl cWay.slice (Low W.heap.size) W A1 n1 ([]:List (List TWay)))=>lawCacheIs [] [] E E A1 none n1 0 W.heap.size W (Nat.le_refl _) h (Sl.empty _ _ _) none_sm)
  rw [cacheIs_tt rfl (by rw [if_neg e1])] at HI
  clear hgood hbad hEY e1
  go_wp2_with fail
  (go_at_call 30;refine (HB.out _).mono ?_;rintro e w6 ⟨rfl,hb_w6⟩;refine kbb (show w6.heap[w1.heap.size]?=some (.cells #[.slice T1.a0 noDom.jobs.length T1.n0,.slice T1.a1 noDom.released.length T1.n1,.int .i64 noDom.next,.slice T1.a2 noDom.ins.length T1.n2,.slice T1.a3 noDom.taken.length T1.n3,.slice T1.a4 noDom.outs.length T1.n4,.slice T1.a5 noDom.events.length T1.n5] 45) from (hb_w6.block _ byS).trans byH) (fun x_w6 cx_w6 fx_w6 zx_w6=>?_);refine kbb (show w6.heap[w1.heap.size+1]?=some (.cells #[.slice A1 ([]:List (List TWay)).length n1] 63) from (hb_w6.block _ byS).trans byH) (fun y_w6 cy_w6 fy_w6 zy_w6=>?_);refine kbb (show w6.heap[wB.heap.size]?=some (.cells #[.slice none 0 0,.slice none 0 0,.int .i64 0,.slice none 0 0,.slice none 0 0,.slice none 0 0,.slice none 0 0] 45) from (hb_w6.block _ byS).trans byH) (fun z_w6 cz_w6 fz_w6 zz_w6=>?_);refine kbb (show w6.heap[wB.heap.size+1]?=some (.cells #[.slice none 0 0] 63) from (hb_w6.block _ byS).trans byH) (fun q_w6 cq_w6 fq_w6 zq_w6=>?_);refine armT w hb_w6 (fun h_w6 s_w6 t_w6 hb_w6=>?_);(try simp at t_w6))
  go_wp2_with fail
  (go_at_call 20;refine (HD.out T1 _ ((hx1.out.next (Nat.le_refl _) byB).up byS)).mono ?_;rintro e w7 ⟨rfl,hb_w7⟩;refine kbb (kb x_w6 hb_w7) (fun x_w7 cx_w7 fx_w7 zx_w7=>?_);refine kbb (kb y_w6 hb_w7) (fun y_w7 cy_w7 fy_w7 zy_w7=>?_);refine kbb (kb z_w6 hb_w7) (fun z_w7 cz_w7 fz_w7 zz_w7=>?_);refine kbb (kb q_w6 hb_w7) (fun q_w7 cq_w7 fq_w7 zq_w7=>?_);refine armT w hb_w7 (fun h_w7 s_w7 t_w7 hb_w7=>?_);(try simp at t_w7);clear x_w6 cx_w6 fx_w6 y_w6 cy_w6 fy_w6 z_w6 cz_w6 fz_w6 q_w6 cq_w6 fq_w6)
  go_wp2_with fail
  go_at_call 31
  refine (HI.out A1 n1 _ ((hy1.out.next (Nat.le_refl _) byB).up byS)).mono ?_
  rintro e w8 ⟨rfl,hb8⟩
  have h8:Below w.heap.size w w8:=byB
  go_wp2_with fail
  go_ret
  exact ⟨rfl,h8⟩
theorem lawWindowRuns (c:TCfg)(S:TCfgS)(m:Int)(d:TDom)(T:TDomS)(k:List (List TWay))(A:Option Addr)(n:Nat)(ac:List TAct)(Al:Option Addr)(nl:Nat)(t:TTimes)(hz:DomSz d)(hev:d.events.length≤4194304)
  (B:Nat) (w:World) (hB:B≤w.heap.size) (hs:TCfg.At (Low B) w c S) (hd:TDom.At (Low B) w d T) (hk:Sl cWay.slice (Low B) w A n k) (hA:Sl cAct (Low B) w Al nl ac):
  Calls Try.prog 7 #[.agg #[.int .i64 c.sets,.int .i64 c.ways,.int .i64 c.doms,.int .i64 c.pad,.int .i64 c.quantum,.slice S.a0 c.slots.length S.n0,.slice S.a1 c.owners.length S.n1,.slice S.a2 c.chans.length S.n2,.slice S.a3 c.tasks.length S.n3],.int .i64 m,.agg #[.slice T.a0 d.jobs.length T.n0,.slice T.a1 d.released.length T.n1,.int .i64 d.next,.slice T.a2 d.ins.length T.n2,.slice T.a3 d.taken.length T.n3,.slice T.a4 d.outs.length T.n4,.slice T.a5 d.events.length T.n5],.agg #[.slice A k.length n],.slice Al ac.length nl,.agg (TTimes.cells t).toArray] w fun en w'=>en= .returned (.bool true)∧Below w.heap.size w w':=by
 obtain ⟨t0,t1⟩:=t
 show Calls Try.prog 7 #[.agg #[.int .i64 c.sets,.int .i64 c.ways,.int .i64 c.doms,.int .i64 c.pad,.int .i64 c.quantum,.slice S.a0 c.slots.length S.n0,.slice S.a1 c.owners.length S.n1,.slice S.a2 c.chans.length S.n2,.slice S.a3 c.tasks.length S.n3],.int .i64 m,.agg #[.slice T.a0 d.jobs.length T.n0,.slice T.a1 d.released.length T.n1,.int .i64 d.next,.slice T.a2 d.ins.length T.n2,.slice T.a3 d.taken.length T.n3,.slice T.a4 d.outs.length T.n4,.slice T.a5 d.events.length T.n5],.agg #[.slice A k.length n],.slice Al ac.length nl,.agg #[.int .i64 t0,.int .i64 t1]] w _
 exact lawWindowRuns0 c S m d T k A n ac Al nl t0 t1 hz hev B w hB hs hd hk hA
end Go.Proofs.Ytinlmkhlgclbfab
