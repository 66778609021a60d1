/- WinR -/
import Derived.Test.YtinlmkhlgclbfabWv27
import Derived.Test.YtinlmkhlgclbfabWv30
namespace Go.Proofs.Ytinlmkhlgclbfab
open Go.RowKit
set_option maxRecDepth 100000
set_option maxHeartbeats 8000000
def timeErr (from_ to_:Int):Int:=if from_ < 0∨to_ < from_∨100000 < to_ then 3 else 0
def winErr (c:TCfg) (m:Int) (d:TDom) (k:List (List TWay)) (l:List TAct) (from_ to_:Int):Int:=thenE (checkBoth c m d) (thenE (checkCache k) (thenE (actsErr l) (timeErr from_ to_)))
def runD (c:TCfg) (m:Int) (d:TDom) (k:List (List TWay)) (l:List TAct) (from_ to_:Int):TDom:=if winErr c m d k l from_ to_=0 then windowD c m d k l from_ to_ else noDom
def runK (c:TCfg) (m:Int) (d:TDom) (k:List (List TWay)) (l:List TAct) (from_ to_:Int):List (List TWay):=if winErr c m d k l from_ to_=0 then windowK c m d k l from_ to_ else []
def RetWin (d:TDom) (k:List (List TWay)) (err:Int) (w:World) (e:Ending) (w':World):Prop:=
 ∃T G A n F,e= .returned (.tuple #[.agg #[.slice T.a0 d.jobs.length T.n0,.slice T.a1 d.released.length T.n1,.int .i64 d.next,.slice T.a2 d.ins.length T.n2,.slice T.a3 d.taken.length T.n3,.slice T.a4 d.outs.length T.n4,.slice T.a5 d.events.length T.n5],.agg #[.slice A k.length n],.int .i64 err])∧DomO G w' d T∧OCache F w' (.slice A k.length n) k∧(∀i b,G i b→w.heap.size≤b)∧(∀b,F b→w.heap.size≤b∧b < w'.heap.size)∧Below w.heap.size w w'
theorem actsErr_ok {l:List TAct}(h:actsErr l=0):l.length≤60∧∀i,i < l.length→ActOk (nth l i):=by
 unfold actsErr at h
 rw [ite_zero (by omega),firstE_zero_iff] at h
 exact ⟨by omega,fun i hi=>actErr_zero.1 (h.2 i hi)⟩
theorem drew_far (w:World)(b:Nat):w.drew.heap[b]?=w.heap[b]?:=rfl
theorem dom_far_d {w:World}{g b:Nat}{u0 u1 u2 u3 u4 u5 u6:Value}(h:b≠g):
  ((((((((w.setCell ⟨g,0,none⟩ u0).setCell ⟨g,1,none⟩ u1).setCell ⟨g,2,none⟩ u2).setCell ⟨g,3,none⟩ u3).setCell ⟨g,4,none⟩ u4).setCell ⟨g,5,none⟩ u5).setCell ⟨g,6,none⟩ u6).drew).heap[b]?=w.heap[b]?:=by rw [drew_heap];exact dom_far h
theorem raw0_below {B g g':Nat}{w0 w:World}{u0 u1 u2 u3 u4 u5 u6 x:Value}(h:Below B w0 w)(hg:B≤g)(hg':B≤g'):
  Below B w0 ((((((((w.setCell ⟨g,0,none⟩ u0).setCell ⟨g,1,none⟩ u1).setCell ⟨g,2,none⟩ u2).setCell ⟨g,3,none⟩ u3).setCell ⟨g,4,none⟩ u4).setCell ⟨g,5,none⟩ u5).setCell ⟨g,6,none⟩ u6).setCell ⟨g',0,none⟩ x):=Below.setCell (dom_below h hg) hg' _
theorem windowRun (c:TCfg)(S:TCfgS)(m:Int)(d:TDom)(T:TDomS)(k:List (List TWay))(Ak:Option Addr)(nk:Nat)(ac:List TAct)(Al:Option Addr)(nl:Nat)(from_ to_:Int)(hz:DomSz d)(hev:d.events.length≤4194304)
  (B:Nat) (w:World) (hB:B≤w.heap.size) (hs:TCfg.At (Low B) w c S) (hd:TDom.At (Low B) w d T) (hk:Sl cWay.slice (Low B) w Ak nk k) (hA:Sl cAct (Low B) w Al nl ac):
  Calls Try.prog 32 #[.agg #[.int .i64 c.sets,.int .i64 c.ways,.int .i64 c.doms,.int .i64 c.pad,.int .i64 c.quantum,.slice S.a0 c.slots.length S.n0,.slice S.a1 c.owners.length S.n1,.slice S.a2 c.chans.length S.n2,.slice S.a3 c.tasks.length S.n3],.int .i64 m,.agg #[.slice T.a0 d.jobs.length T.n0,.slice T.a1 d.released.length T.n1,.int .i64 d.next,.slice T.a2 d.ins.length T.n2,.slice T.a3 d.taken.length T.n3,.slice T.a4 d.outs.length T.n4,.slice T.a5 d.events.length T.n5],.agg #[.slice Ak k.length nk],.slice Al ac.length nl,.int .i64 from_,.int .i64 to_] w (RetWin (runD c m d k ac from_ to_) (runK c m d k ac from_ to_) (winErr c m d k ac from_ to_) w):=by
 have H1:=zH (fun W (h:Below w.heap.size w W)=>readyCheck c S m d T B W (Nat.le_trans hB h.size) (hs.next hB h) (hd.next hB h))
 have H2:=zH (fun W (h:Below w.heap.size w W)=>cacheCheck k Ak nk B W (Nat.le_trans hB h.size) (hk.next hB h))
 have H3:=zH (fun W (h:Below w.heap.size w W)=>windowActions ac Al nl B W (Nat.le_trans hB h.size) (hA.next hB h))
 have R0:∀E,E≠0→winErr c m d k ac from_ to_=E→runD c m d k ac from_ to_=noDom∧runK c m d k ac from_ to_=[]:=fun E h1 h2=>⟨by unfold runD;rw [h2,if_neg h1],by unfold runK;rw [h2,if_neg h1]⟩
 by_cases e1:checkBoth c m d=0
 ·have W1:winErr c m d k ac from_ to_=thenE (checkCache k) (thenE (actsErr ac) (timeErr from_ to_)):=by unfold winErr;rw [e1];rfl
  rw [e1] at H1
  by_cases e2:checkCache k=0
  ·have W2:winErr c m d k ac from_ to_=thenE (actsErr ac) (timeErr from_ to_):=by rw [W1,e2];rfl
   rw [e2] at H2
   by_cases e3:actsErr ac=0
   ·have W3:winErr c m d k ac from_ to_=timeErr from_ to_:=by rw [W2,e3];rfl
    rw [e3] at H3
    by_cases e4:from_ < 0∨to_ < from_∨100000 < to_
    ·have W4:winErr c m d k ac from_ to_=3:=by rw [W3];unfold timeErr;rw [if_pos e4]
     obtain ⟨R1,R2⟩:=R0 3 (by decide) W4
     rw [R1,R2,W4]
     clear R0 R1 R2 W1 W2 W3 W4 e1 e2 e3 hs hd hk hA
     by_cases f1:from_ < 0
     ·have b1:decide (from_ < 0)=true:=by simpa using f1
      go_enter Try.func32,Try.ntmps32
      go_wp2_with fail
      (go_at_call 70;refine (H1.out _ byB).mono ?_;rintro e w1 ⟨rfl,hb_w1⟩;refine kbb (show w1.heap[w.heap.size]?=some (.cells #[.int .i64 c.sets,.int .i64 c.ways,.int .i64 c.doms,.int .i64 c.pad,.int .i64 c.quantum,.slice S.a0 c.slots.length S.n0,.slice S.a1 c.owners.length S.n1,.slice S.a2 c.chans.length S.n2,.slice S.a3 c.tasks.length S.n3] 27) from (hb_w1.block _ byS).trans byH) (fun c_w1 cc_w1 fc_w1 zc_w1=>?_);refine kbb (show w1.heap[w.heap.size+1]?=some (.cells #[.slice T.a0 d.jobs.length T.n0,.slice T.a1 d.released.length T.n1,.int .i64 d.next,.slice T.a2 d.ins.length T.n2,.slice T.a3 d.taken.length T.n3,.slice T.a4 d.outs.length T.n4,.slice T.a5 d.events.length T.n5] 45) from (hb_w1.block _ byS).trans byH) (fun d_w1 cd_w1 fd_w1 zd_w1=>?_);refine kbb (show w1.heap[w.heap.size+2]?=some (.cells #[.slice Ak k.length nk] 63) from (hb_w1.block _ byS).trans byH) (fun k_w1 ck_w1 fk_w1 zk_w1=>?_);refine kbb (show w1.heap[w.heap.size+3]?=some (.cells #[.slice none 0 0,.slice none 0 0,.int .i64 0,.slice none 0 0,.slice none 0 0,.slice none 0 0,.slice none 0 0] 45) from (hb_w1.block _ byS).trans byH) (fun r_w1 cr_w1 fr_w1 zr_w1=>?_);refine kbb (show w1.heap[w.heap.size+4]?=some (.cells #[.slice none 0 0] 63) from (hb_w1.block _ byS).trans byH) (fun q_w1 cq_w1 fq_w1 zq_w1=>?_);refine armT w hb_w1 (fun h_w1 s_w1 t_w1 hb_w1=>?_);(try simp at t_w1))
      go_wp2_with fail
      (go_at_call 63;refine (H2.out _ byB).mono ?_;rintro e w2 ⟨rfl,hb_w2⟩;refine kbb (kb c_w1 hb_w2) (fun c_w2 cc_w2 fc_w2 zc_w2=>?_);refine kbb (kb d_w1 hb_w2) (fun d_w2 cd_w2 fd_w2 zd_w2=>?_);refine kbb (kb k_w1 hb_w2) (fun k_w2 ck_w2 fk_w2 zk_w2=>?_);refine kbb (kb r_w1 hb_w2) (fun r_w2 cr_w2 fr_w2 zr_w2=>?_);refine kbb (kb q_w1 hb_w2) (fun q_w2 cq_w2 fq_w2 zq_w2=>?_);refine armT w hb_w2 (fun h_w2 s_w2 t_w2 hb_w2=>?_);(try simp at t_w2);clear c_w1 cc_w1 fc_w1 d_w1 cd_w1 fd_w1 k_w1 ck_w1 fk_w1 r_w1 cr_w1 fr_w1 q_w1 cq_w1 fq_w1)
      go_wp2_with fail
      (go_at_call 71;refine (H3.out _ byB).mono ?_;rintro e w3 ⟨rfl,hb_w3⟩;refine kbb (kb c_w2 hb_w3) (fun c_w3 cc_w3 fc_w3 zc_w3=>?_);refine kbb (kb d_w2 hb_w3) (fun d_w3 cd_w3 fd_w3 zd_w3=>?_);refine kbb (kb k_w2 hb_w3) (fun k_w3 ck_w3 fk_w3 zk_w3=>?_);refine kbb (kb r_w2 hb_w3) (fun r_w3 cr_w3 fr_w3 zr_w3=>?_);refine kbb (kb q_w2 hb_w3) (fun q_w3 cq_w3 fq_w3 zq_w3=>?_);refine armT w hb_w3 (fun h_w3 s_w3 t_w3 hb_w3=>?_);(try simp at t_w3);clear c_w2 cc_w2 fc_w2 d_w2 cd_w2 fd_w2 k_w2 ck_w2 fk_w2 r_w2 cr_w2 fr_w2 q_w2 cq_w2 fq_w2)
      go_wp2_with fail
      have e3:=dom_set (u0:= .slice none 0 0) (u1:= .slice none 0 0) (u2:= .int .i64 0) (u3:= .slice none 0 0) (u4:= .slice none 0 0) (u5:= .slice none 0 0) (u6:= .slice none 0 0) r_w3
      obtain ⟨c9,f9,z9⟩:=blk (heap_set_far (p:=⟨w.heap.size+4,0,none⟩) (u:= .slice none 0 0) e3 (by simp))
      obtain ⟨c8,f8,z8⟩:=blk (heap_set_same (i:=0) (u:= .slice none 0 0) ((dom_far (u0:= .slice none 0 0) (u1:= .slice none 0 0) (u2:= .int .i64 0) (u3:= .slice none 0 0) (u4:= .slice none 0 0) (u5:= .slice none 0 0) (u6:= .slice none 0 0) (show w.heap.size+4≠w.heap.size+3 by omega)).trans q_w3))
      refine bodyPost_ret (v:= .tuple #[.agg #[.slice none 0 0,.slice none 0 0,.int .i64 0,.slice none 0 0,.slice none 0 0,.slice none 0 0,.slice none 0 0],.agg #[.slice none 0 0],.int .i64 3]) (by simp [results,Try.results32,go_sem, *]) rfl ?_
      exact ⟨noDomS,fun _ _=>False,none,0,fun _=>False,rfl,noDom_own _,ocache_nil _ _,fun _ _ h=>h.elim,fun _ h=>h.elim,raw0_below h_w3 (by omega) (by omega)⟩
     ·have b1:decide (from_ < 0)=false:=by simpa using f1
      by_cases f2:to_ < from_
      ·have b2:decide (to_ < from_)=true:=by simpa using f2
       go_enter Try.func32,Try.ntmps32
       go_wp2_with fail
       (go_at_call 70;refine (H1.out _ byB).mono ?_;rintro e w1 ⟨rfl,hb_w1⟩;refine kbb (show w1.heap[w.heap.size]?=some (.cells #[.int .i64 c.sets,.int .i64 c.ways,.int .i64 c.doms,.int .i64 c.pad,.int .i64 c.quantum,.slice S.a0 c.slots.length S.n0,.slice S.a1 c.owners.length S.n1,.slice S.a2 c.chans.length S.n2,.slice S.a3 c.tasks.length S.n3] 27) from (hb_w1.block _ byS).trans byH) (fun c_w1 cc_w1 fc_w1 zc_w1=>?_);refine kbb (show w1.heap[w.heap.size+1]?=some (.cells #[.slice T.a0 d.jobs.length T.n0,.slice T.a1 d.released.length T.n1,.int .i64 d.next,.slice T.a2 d.ins.length T.n2,.slice T.a3 d.taken.length T.n3,.slice T.a4 d.outs.length T.n4,.slice T.a5 d.events.length T.n5] 45) from (hb_w1.block _ byS).trans byH) (fun d_w1 cd_w1 fd_w1 zd_w1=>?_);refine kbb (show w1.heap[w.heap.size+2]?=some (.cells #[.slice Ak k.length nk] 63) from (hb_w1.block _ byS).trans byH) (fun k_w1 ck_w1 fk_w1 zk_w1=>?_);refine kbb (show w1.heap[w.heap.size+3]?=some (.cells #[.slice none 0 0,.slice none 0 0,.int .i64 0,.slice none 0 0,.slice none 0 0,.slice none 0 0,.slice none 0 0] 45) from (hb_w1.block _ byS).trans byH) (fun r_w1 cr_w1 fr_w1 zr_w1=>?_);refine kbb (show w1.heap[w.heap.size+4]?=some (.cells #[.slice none 0 0] 63) from (hb_w1.block _ byS).trans byH) (fun q_w1 cq_w1 fq_w1 zq_w1=>?_);refine armT w hb_w1 (fun h_w1 s_w1 t_w1 hb_w1=>?_);(try simp at t_w1))
       go_wp2_with fail
       (go_at_call 63;refine (H2.out _ byB).mono ?_;rintro e w2 ⟨rfl,hb_w2⟩;refine kbb (kb c_w1 hb_w2) (fun c_w2 cc_w2 fc_w2 zc_w2=>?_);refine kbb (kb d_w1 hb_w2) (fun d_w2 cd_w2 fd_w2 zd_w2=>?_);refine kbb (kb k_w1 hb_w2) (fun k_w2 ck_w2 fk_w2 zk_w2=>?_);refine kbb (kb r_w1 hb_w2) (fun r_w2 cr_w2 fr_w2 zr_w2=>?_);refine kbb (kb q_w1 hb_w2) (fun q_w2 cq_w2 fq_w2 zq_w2=>?_);refine armT w hb_w2 (fun h_w2 s_w2 t_w2 hb_w2=>?_);(try simp at t_w2);clear c_w1 cc_w1 fc_w1 d_w1 cd_w1 fd_w1 k_w1 ck_w1 fk_w1 r_w1 cr_w1 fr_w1 q_w1 cq_w1 fq_w1)
       go_wp2_with fail
       (go_at_call 71;refine (H3.out _ byB).mono ?_;rintro e w3 ⟨rfl,hb_w3⟩;refine kbb (kb c_w2 hb_w3) (fun c_w3 cc_w3 fc_w3 zc_w3=>?_);refine kbb (kb d_w2 hb_w3) (fun d_w3 cd_w3 fd_w3 zd_w3=>?_);refine kbb (kb k_w2 hb_w3) (fun k_w3 ck_w3 fk_w3 zk_w3=>?_);refine kbb (kb r_w2 hb_w3) (fun r_w3 cr_w3 fr_w3 zr_w3=>?_);refine kbb (kb q_w2 hb_w3) (fun q_w3 cq_w3 fq_w3 zq_w3=>?_);refine armT w hb_w3 (fun h_w3 s_w3 t_w3 hb_w3=>?_);(try simp at t_w3);clear c_w2 cc_w2 fc_w2 d_w2 cd_w2 fd_w2 k_w2 ck_w2 fk_w2 r_w2 cr_w2 fr_w2 q_w2 cq_w2 fq_w2)
       go_wp2_with fail
       have e3:=dom_set (u0:= .slice none 0 0) (u1:= .slice none 0 0) (u2:= .int .i64 0) (u3:= .slice none 0 0) (u4:= .slice none 0 0) (u5:= .slice none 0 0) (u6:= .slice none 0 0) r_w3
       obtain ⟨c9,f9,z9⟩:=blk (heap_set_far (p:=⟨w.heap.size+4,0,none⟩) (u:= .slice none 0 0) e3 (by simp))
       obtain ⟨c8,f8,z8⟩:=blk (heap_set_same (i:=0) (u:= .slice none 0 0) ((dom_far (u0:= .slice none 0 0) (u1:= .slice none 0 0) (u2:= .int .i64 0) (u3:= .slice none 0 0) (u4:= .slice none 0 0) (u5:= .slice none 0 0) (u6:= .slice none 0 0) (show w.heap.size+4≠w.heap.size+3 by omega)).trans q_w3))
       refine bodyPost_ret (v:= .tuple #[.agg #[.slice none 0 0,.slice none 0 0,.int .i64 0,.slice none 0 0,.slice none 0 0,.slice none 0 0,.slice none 0 0],.agg #[.slice none 0 0],.int .i64 3]) (by simp [results,Try.results32,go_sem, *]) rfl ?_
       exact ⟨noDomS,fun _ _=>False,none,0,fun _=>False,rfl,noDom_own _,ocache_nil _ _,fun _ _ h=>h.elim,fun _ h=>h.elim,raw0_below h_w3 (by omega) (by omega)⟩
      ·have b2:decide (to_ < from_)=false:=by simpa using f2
       have b3:decide (to_ > 100000)=true:=by simp;omega
       go_enter Try.func32,Try.ntmps32
       go_wp2_with fail
       (go_at_call 70;refine (H1.out _ byB).mono ?_;rintro e w1 ⟨rfl,hb_w1⟩;refine kbb (show w1.heap[w.heap.size]?=some (.cells #[.int .i64 c.sets,.int .i64 c.ways,.int .i64 c.doms,.int .i64 c.pad,.int .i64 c.quantum,.slice S.a0 c.slots.length S.n0,.slice S.a1 c.owners.length S.n1,.slice S.a2 c.chans.length S.n2,.slice S.a3 c.tasks.length S.n3] 27) from (hb_w1.block _ byS).trans byH) (fun c_w1 cc_w1 fc_w1 zc_w1=>?_);refine kbb (show w1.heap[w.heap.size+1]?=some (.cells #[.slice T.a0 d.jobs.length T.n0,.slice T.a1 d.released.length T.n1,.int .i64 d.next,.slice T.a2 d.ins.length T.n2,.slice T.a3 d.taken.length T.n3,.slice T.a4 d.outs.length T.n4,.slice T.a5 d.events.length T.n5] 45) from (hb_w1.block _ byS).trans byH) (fun d_w1 cd_w1 fd_w1 zd_w1=>?_);refine kbb (show w1.heap[w.heap.size+2]?=some (.cells #[.slice Ak k.length nk] 63) from (hb_w1.block _ byS).trans byH) (fun k_w1 ck_w1 fk_w1 zk_w1=>?_);refine kbb (show w1.heap[w.heap.size+3]?=some (.cells #[.slice none 0 0,.slice none 0 0,.int .i64 0,.slice none 0 0,.slice none 0 0,.slice none 0 0,.slice none 0 0] 45) from (hb_w1.block _ byS).trans byH) (fun r_w1 cr_w1 fr_w1 zr_w1=>?_);refine kbb (show w1.heap[w.heap.size+4]?=some (.cells #[.slice none 0 0] 63) from (hb_w1.block _ byS).trans byH) (fun q_w1 cq_w1 fq_w1 zq_w1=>?_);refine armT w hb_w1 (fun h_w1 s_w1 t_w1 hb_w1=>?_);(try simp at t_w1))
       go_wp2_with fail
       (go_at_call 63;refine (H2.out _ byB).mono ?_;rintro e w2 ⟨rfl,hb_w2⟩;refine kbb (kb c_w1 hb_w2) (fun c_w2 cc_w2 fc_w2 zc_w2=>?_);refine kbb (kb d_w1 hb_w2) (fun d_w2 cd_w2 fd_w2 zd_w2=>?_);refine kbb (kb k_w1 hb_w2) (fun k_w2 ck_w2 fk_w2 zk_w2=>?_);refine kbb (kb r_w1 hb_w2) (fun r_w2 cr_w2 fr_w2 zr_w2=>?_);refine kbb (kb q_w1 hb_w2) (fun q_w2 cq_w2 fq_w2 zq_w2=>?_);refine armT w hb_w2 (fun h_w2 s_w2 t_w2 hb_w2=>?_);(try simp at t_w2);clear c_w1 cc_w1 fc_w1 d_w1 cd_w1 fd_w1 k_w1 ck_w1 fk_w1 r_w1 cr_w1 fr_w1 q_w1 cq_w1 fq_w1)
       go_wp2_with fail
       (go_at_call 71;refine (H3.out _ byB).mono ?_;rintro e w3 ⟨rfl,hb_w3⟩;refine kbb (kb c_w2 hb_w3) (fun c_w3 cc_w3 fc_w3 zc_w3=>?_);refine kbb (kb d_w2 hb_w3) (fun d_w3 cd_w3 fd_w3 zd_w3=>?_);refine kbb (kb k_w2 hb_w3) (fun k_w3 ck_w3 fk_w3 zk_w3=>?_);refine kbb (kb r_w2 hb_w3) (fun r_w3 cr_w3 fr_w3 zr_w3=>?_);refine kbb (kb q_w2 hb_w3) (fun q_w3 cq_w3 fq_w3 zq_w3=>?_);refine armT w hb_w3 (fun h_w3 s_w3 t_w3 hb_w3=>?_);(try simp at t_w3);clear c_w2 cc_w2 fc_w2 d_w2 cd_w2 fd_w2 k_w2 ck_w2 fk_w2 r_w2 cr_w2 fr_w2 q_w2 cq_w2 fq_w2)
       go_wp2_with fail
       have e3:=dom_set (u0:= .slice none 0 0) (u1:= .slice none 0 0) (u2:= .int .i64 0) (u3:= .slice none 0 0) (u4:= .slice none 0 0) (u5:= .slice none 0 0) (u6:= .slice none 0 0) r_w3
       obtain ⟨c9,f9,z9⟩:=blk (heap_set_far (p:=⟨w.heap.size+4,0,none⟩) (u:= .slice none 0 0) e3 (by simp))
       obtain ⟨c8,f8,z8⟩:=blk (heap_set_same (i:=0) (u:= .slice none 0 0) ((dom_far (u0:= .slice none 0 0) (u1:= .slice none 0 0) (u2:= .int .i64 0) (u3:= .slice none 0 0) (u4:= .slice none 0 0) (u5:= .slice none 0 0) (u6:= .slice none 0 0) (show w.heap.size+4≠w.heap.size+3 by omega)).trans q_w3))
       refine bodyPost_ret (v:= .tuple #[.agg #[.slice none 0 0,.slice none 0 0,.int .i64 0,.slice none 0 0,.slice none 0 0,.slice none 0 0,.slice none 0 0],.agg #[.slice none 0 0],.int .i64 3]) (by simp [results,Try.results32,go_sem, *]) rfl ?_
       exact ⟨noDomS,fun _ _=>False,none,0,fun _=>False,rfl,noDom_own _,ocache_nil _ _,fun _ _ h=>h.elim,fun _ h=>h.elim,raw0_below h_w3 (by omega) (by omega)⟩
    ·have W4:winErr c m d k ac from_ to_=0:=by rw [W3];unfold timeErr;rw [if_neg e4]
     have R1:runD c m d k ac from_ to_=windowD c m d k ac from_ to_:=by unfold runD;rw [if_pos W4]
     have R2:runK c m d k ac from_ to_=windowK c m d k ac from_ to_:=by unfold runK;rw [if_pos W4]
     rw [R1,R2,W4]
     have hcb:checkConfig c=0∧domErr c m d=0:=by unfold checkBoth at e1;exact thenE_zero.1 e1
     have ok:=checkConfig_ok hcb.1
     have hdo:=domErr_zero.1 hcb.2
     have hko:=checkCache_ok.1 e2
     obtain ⟨hl,ha⟩:=actsErr_ok e3
     have H4:=zH (fun W (h:Below w.heap.size w W)=>readyOwn d T hz B W (Nat.le_trans hB h.size) (hd.next hB h))
     have H5:=zH (fun W (h:Below w.heap.size w W)=>cacheOwn k Ak nk B W (Nat.le_trans hB h.size) (hk.next hB h) (by have:=hko.h4;omega) (fun i hi=>by have:=hko.same i hi;have:=hko.w3;omega))
     have HR0:=zH (fun (w3:World) (h3:Below w.heap.size w w3) (W:World) (h:Below w3.heap.size w3 W) (Gx:Nat→Nat→Prop) (Fx:Nat→Prop) (Tx:TDomS) (Ax:Option Addr) (nx:Nat) (hO:DomO Gx W d Tx) (hK:OCache Fx W (.slice Ax k.length nx) k) (hG:∀i b,Gx i b→w3.heap.size≤b∧b < W.heap.size) (hF:∀b,Fx b→w3.heap.size≤b∧b < W.heap.size) (hGF:∀i b,Gx i b→¬ Fx b)=>
      windowRaw (B:=w3.heap.size) (Al:=Al) (nl:=nl) (from_:=from_) (to_:=to_) (S:=S) ok hl ha (by omega) ⟨by dsimp only;omega,hdo.toDomOkW,hko⟩ hev (fun j=>by
       by_cases hj:j < d.outs.length
       ·have:=(hdo.out j hj).1;omega
       ·unfold nth;rw [List.getD_eq_getElem?_getD,List.getElem?_eq_none (by omega)];exact Nat.zero_le _) W h.size ((hs.next hB (h3.trans (h.mono h3.size))).up (Nat.le_trans hB h3.size)) hO hK ((hA.next hB (h3.trans (h.mono h3.size))).up (Nat.le_trans hB h3.size)) (fun i b hb=>(hG i b hb).1) hF hGF)
     have b1:decide (from_ < 0)=false:=by simp;omega
     have b2:decide (to_ < from_)=false:=by simp;omega
     have b3:decide (to_ > 100000)=false:=by simp;omega
     clear R0 R1 R2 W1 W2 W3 W4 e1 e2 e3 e4 hs hd hk hA ok hdo hko hl ha hcb hz hev
     generalize windowD c m d k ac from_ to_=d1 at*
     generalize windowK c m d k ac from_ to_=k1 at*
     go_enter Try.func32,Try.ntmps32
     go_wp2_with fail
     (go_at_call 70;refine (H1.out _ byB).mono ?_;rintro e w1 ⟨rfl,hb_w1⟩;refine kbb (show w1.heap[w.heap.size]?=some (.cells #[.int .i64 c.sets,.int .i64 c.ways,.int .i64 c.doms,.int .i64 c.pad,.int .i64 c.quantum,.slice S.a0 c.slots.length S.n0,.slice S.a1 c.owners.length S.n1,.slice S.a2 c.chans.length S.n2,.slice S.a3 c.tasks.length S.n3] 27) from (hb_w1.block _ byS).trans byH) (fun c_w1 cc_w1 fc_w1 zc_w1=>?_);refine kbb (show w1.heap[w.heap.size+1]?=some (.cells #[.slice T.a0 d.jobs.length T.n0,.slice T.a1 d.released.length T.n1,.int .i64 d.next,.slice T.a2 d.ins.length T.n2,.slice T.a3 d.taken.length T.n3,.slice T.a4 d.outs.length T.n4,.slice T.a5 d.events.length T.n5] 45) from (hb_w1.block _ byS).trans byH) (fun d_w1 cd_w1 fd_w1 zd_w1=>?_);refine kbb (show w1.heap[w.heap.size+2]?=some (.cells #[.slice Ak k.length nk] 63) from (hb_w1.block _ byS).trans byH) (fun k_w1 ck_w1 fk_w1 zk_w1=>?_);refine kbb (show w1.heap[w.heap.size+3]?=some (.cells #[.slice none 0 0,.slice none 0 0,.int .i64 0,.slice none 0 0,.slice none 0 0,.slice none 0 0,.slice none 0 0] 45) from (hb_w1.block _ byS).trans byH) (fun r_w1 cr_w1 fr_w1 zr_w1=>?_);refine kbb (show w1.heap[w.heap.size+4]?=some (.cells #[.slice none 0 0] 63) from (hb_w1.block _ byS).trans byH) (fun q_w1 cq_w1 fq_w1 zq_w1=>?_);refine armT w hb_w1 (fun h_w1 s_w1 t_w1 hb_w1=>?_);(try simp at t_w1))
     go_wp2_with fail
     (go_at_call 63;refine (H2.out _ byB).mono ?_;rintro e w2 ⟨rfl,hb_w2⟩;refine kbb (kb c_w1 hb_w2) (fun c_w2 cc_w2 fc_w2 zc_w2=>?_);refine kbb (kb d_w1 hb_w2) (fun d_w2 cd_w2 fd_w2 zd_w2=>?_);refine kbb (kb k_w1 hb_w2) (fun k_w2 ck_w2 fk_w2 zk_w2=>?_);refine kbb (kb r_w1 hb_w2) (fun r_w2 cr_w2 fr_w2 zr_w2=>?_);refine kbb (kb q_w1 hb_w2) (fun q_w2 cq_w2 fq_w2 zq_w2=>?_);refine armT w hb_w2 (fun h_w2 s_w2 t_w2 hb_w2=>?_);(try simp at t_w2);clear c_w1 cc_w1 fc_w1 d_w1 cd_w1 fd_w1 k_w1 ck_w1 fk_w1 r_w1 cr_w1 fr_w1 q_w1 cq_w1 fq_w1)
     go_wp2_with fail
     (go_at_call 71;refine (H3.out _ byB).mono ?_;rintro e w3 ⟨rfl,hb_w3⟩;refine kbb (kb c_w2 hb_w3) (fun c_w3 cc_w3 fc_w3 zc_w3=>?_);refine kbb (kb d_w2 hb_w3) (fun d_w3 cd_w3 fd_w3 zd_w3=>?_);refine kbb (kb k_w2 hb_w3) (fun k_w3 ck_w3 fk_w3 zk_w3=>?_);refine kbb (kb r_w2 hb_w3) (fun r_w3 cr_w3 fr_w3 zr_w3=>?_);refine kbb (kb q_w2 hb_w3) (fun q_w3 cq_w3 fq_w3 zq_w3=>?_);refine armT w hb_w3 (fun h_w3 s_w3 t_w3 hb_w3=>?_);(try simp at t_w3);clear c_w2 cc_w2 fc_w2 d_w2 cd_w2 fd_w2 k_w2 ck_w2 fk_w2 r_w2 cr_w2 fr_w2 q_w2 cq_w2 fq_w2)
     go_upto_region 10 with (fail)
     have HR:=zH (HR0.out w3 h_w3)
     have z_c:=(blk c_w3).2.2
     have z_d:=(blk d_w3).2.2
     have z_k:=(blk k_w3).2.2
     have z_r:=(blk r_w3).2.2
     have z_q:=(blk q_w3).2.2
     have KC:=zH (fun W (h:Below w3.heap.size w3 W)=>(h.block _ z_c).trans c_w3)
     have KD:=zH (fun W (h:Below w3.heap.size w3 W)=>(h.block _ z_d).trans d_w3)
     have KK:=zH (fun W (h:Below w3.heap.size w3 W)=>(h.block _ z_k).trans k_w3)
     clear HR0 H1 H2 H3
     refine wp_region_inv [53,54,55,56,57,58,59,60,61,62,52,63,64,18,19] (fun l f W=>(l.size=17∧Below w3.heap.size w3 W∧RunS w3 d d1 k k1 l f W)∧Fa l 0 (f 53= .agg #[.int .i64 c.sets,.int .i64 c.ways,.int .i64 c.doms,.int .i64 c.pad,.int .i64 c.quantum,.slice S.a0 c.slots.length S.n0,.slice S.a1 c.owners.length S.n1,.slice S.a2 c.chans.length S.n2,.slice S.a3 c.tasks.length S.n3])∧Fa l 1 (f 54= .int .i64 m)∧Fa l 2 (f 55= .agg #[.slice T.a0 d.jobs.length T.n0,.slice T.a1 d.released.length T.n1,.int .i64 d.next,.slice T.a2 d.ins.length T.n2,.slice T.a3 d.taken.length T.n3,.slice T.a4 d.outs.length T.n4,.slice T.a5 d.events.length T.n5])∧Fa l 4 (f 57= .agg #[.slice Ak k.length nk])∧Fa l 6 (f 59= .slice Al ac.length nl)∧Fa l 7 (f 60= .int .i64 from_)∧Fa l 8 (f 61= .int .i64 to_)) (by kernel_rfl) (by decide) (by kernel_rfl) (by intro s hs;simp at hs⊢;omega) ?_ ?_ ?_
     ·intro l hz hl
      exact ⟨⟨hz,(Below.refl _ _).drew,runS_start hl⟩,.no (hl 0),.no (hl 1),.no (hl 2),.no (hl 4),.no (hl 6),.no (hl 7),.no (hl 8)⟩
     ·refine StepsL.c 1 [] (fun l f W hR hn hb K Q2 hK=>?_) ?_
      ·obtain ⟨hS,h0,h1,h2,h4,h6,h7,h8⟩:=hR
       obtain ⟨hz,hS,hO⟩:=hS
       clear hb
       refine ⟨?_⟩
       simp only [pfs] at hK⊢
       obtain ⟨cX,fX,zX⟩:=blk (KC.out W hS)
       go_simp
       refine hK.out _ _ ⟨⟨by simpa using hz,hS,hO.skip⟩,⟨fun _=>rfl⟩,h1.k,h2.k,h4.k,h6.k,h7.k,h8.k⟩
      refine StepsL.c 2 [] (fun l f W hR hn hb K Q2 hK=>?_) ?_
      ·obtain ⟨hS,h0,h1,h2,h4,h6,h7,h8⟩:=hR
       obtain ⟨hz,hS,hO⟩:=hS
       clear hb
       refine ⟨?_⟩
       simp only [pfs] at hK⊢
       go_simp
       refine hK.out _ _ ⟨⟨by simpa using hz,hS,hO.skip⟩,h0.k,⟨fun _=>rfl⟩,h2.k,h4.k,h6.k,h7.k,h8.k⟩
      refine StepsL.c 3 [] (fun l f W hR hn hb K Q2 hK=>?_) ?_
      ·obtain ⟨hS,h0,h1,h2,h4,h6,h7,h8⟩:=hR
       obtain ⟨hz,hS,hO⟩:=hS
       clear hb
       refine ⟨?_⟩
       simp only [pfs] at hK⊢
       obtain ⟨cX,fX,zX⟩:=blk (KD.out W hS)
       go_simp
       refine hK.out _ _ ⟨⟨by simpa using hz,hS,hO.skip⟩,h0.k,h1.k,⟨fun _=>rfl⟩,h4.k,h6.k,h7.k,h8.k⟩
      refine StepsL.c 4 [2] (fun l f W hR hn hb K Q2 hK=>?_) ?_
      ·obtain ⟨hS,h0,h1,h2,h4,h6,h7,h8⟩:=hR
       have q2:=h2.out (hb 2 (by simp))
       obtain ⟨hz,hS,hO⟩:=hS
       obtain ⟨Gx,Fx,Tx,Ax,nx,hI⟩:=hO
       clear hb
       refine ⟨?_⟩
       simp only [pfs] at hK⊢
       (try simp only [q2] at hK)
       have HC:=H4.out W (h_w3.trans (hS.mono s_w3))
       go_simp
       go_at_call 54
       refine HC.mono ?_
       clear HC
       rintro e w4 ⟨T4,G4,rfl,hO4,hG4,hb4⟩
       try dsimp only
       try simp only [Act.put,List.setIfInBounds_toArray,List.set_cons_zero,List.set_cons_succ]
       refine hK.out _ _ ⟨⟨by simpa using hz,hS.trans (hb4.mono hS.size),hI.own hz hn hS.size hO4 hG4 hb4⟩,h0.k,h1.k,h2.k,h4.k,h6.k,h7.k,h8.k⟩
      refine StepsL.c 5 [] (fun l f W hR hn hb K Q2 hK=>?_) ?_
      ·obtain ⟨hS,h0,h1,h2,h4,h6,h7,h8⟩:=hR
       obtain ⟨hz,hS,hO⟩:=hS
       clear hb
       refine ⟨?_⟩
       simp only [pfs] at hK⊢
       obtain ⟨cX,fX,zX⟩:=blk (KK.out W hS)
       go_simp
       refine hK.out _ _ ⟨⟨by simpa using hz,hS,hO.skip⟩,h0.k,h1.k,h2.k,⟨fun _=>rfl⟩,h6.k,h7.k,h8.k⟩
      refine StepsL.c 6 [4,3] (fun l f W hR hn hb K Q2 hK=>?_) ?_
      ·obtain ⟨hS,h0,h1,h2,h4,h6,h7,h8⟩:=hR
       have q4:=h4.out (hb 4 (by simp))
       have hb3:=hb 3 (by simp)
       obtain ⟨hz,hS,hO⟩:=hS
       obtain ⟨Gx,Fx,Tx,Ax,nx,hI⟩:=hO
       have hx3:=hb3
       clear hb
       refine ⟨?_⟩
       simp only [pfs] at hK⊢
       (try simp only [q4] at hK)
       have HC:=H5.out W (h_w3.trans (hS.mono s_w3))
       go_simp
       go_at_call 65
       refine HC.mono ?_
       clear HC
       rintro e w5 ⟨A5,n5,rfl,hO5,hb5⟩
       try dsimp only
       try simp only [Act.put,List.setIfInBounds_toArray,List.set_cons_zero,List.set_cons_succ]
       refine hK.out _ _ ⟨⟨by simpa using hz,hS.trans (hb5.mono hS.size),hI.cache hz hn hx3 hS.size hO5 hb5⟩,h0.k,h1.k,h2.k,h4.k,h6.k,h7.k,h8.k⟩
      refine StepsL.c 7 [] (fun l f W hR hn hb K Q2 hK=>?_) ?_
      ·obtain ⟨hS,h0,h1,h2,h4,h6,h7,h8⟩:=hR
       obtain ⟨hz,hS,hO⟩:=hS
       clear hb
       refine ⟨?_⟩
       simp only [pfs] at hK⊢
       go_simp
       refine hK.out _ _ ⟨⟨by simpa using hz,hS,hO.skip⟩,h0.k,h1.k,h2.k,h4.k,⟨fun _=>rfl⟩,h7.k,h8.k⟩
      refine StepsL.c 8 [] (fun l f W hR hn hb K Q2 hK=>?_) ?_
      ·obtain ⟨hS,h0,h1,h2,h4,h6,h7,h8⟩:=hR
       obtain ⟨hz,hS,hO⟩:=hS
       clear hb
       refine ⟨?_⟩
       simp only [pfs] at hK⊢
       go_simp
       refine hK.out _ _ ⟨⟨by simpa using hz,hS,hO.skip⟩,h0.k,h1.k,h2.k,h4.k,h6.k,⟨fun _=>rfl⟩,h8.k⟩
      refine StepsL.c 9 [] (fun l f W hR hn hb K Q2 hK=>?_) ?_
      ·obtain ⟨hS,h0,h1,h2,h4,h6,h7,h8⟩:=hR
       obtain ⟨hz,hS,hO⟩:=hS
       clear hb
       refine ⟨?_⟩
       simp only [pfs] at hK⊢
       go_simp
       refine hK.out _ _ ⟨⟨by simpa using hz,hS,hO.skip⟩,h0.k,h1.k,h2.k,h4.k,h6.k,h7.k,⟨fun _=>rfl⟩⟩
      refine StepsL.c 10 [0,1,3,5,6,7,8,5] (fun l f W hR hn hb K Q2 hK=>?_) ?_
      ·obtain ⟨hS,h0,h1,h2,h4,h6,h7,h8⟩:=hR
       have q0:=h0.out (hb 0 (by simp))
       have q1:=h1.out (hb 1 (by simp))
       have q6:=h6.out (hb 6 (by simp))
       have q7:=h7.out (hb 7 (by simp))
       have q8:=h8.out (hb 8 (by simp))
       have hb3:=hb 3 (by simp)
       have hb5:=hb 5 (by simp)
       obtain ⟨hz,hS,hO⟩:=hS
       obtain ⟨Gx,Fx,Tx,Ax,nx,hI⟩:=hO
       have hx3:=hb3
       have hx5:=hb5
       have y3:=hI.s3 hx3 hn
       have y5:=hI.s5 hx5 hn
       have e3:=y3.1
       have e5:=y5.1
       clear hb
       refine ⟨?_⟩
       simp only [pfs] at hK⊢
       (try simp only [q0,q1,q6,q7,q8,e3,e5] at hK)
       have HC:=HR.out W hS Gx Fx Tx Ax nx y3.2 y5.2 hI.gr hI.fr hI.gf
       go_simp
       go_at_call 72
       refine HC.mono ?_
       clear HC
       rintro e w9 ⟨T9,G9,rfl,hO9,hK9,hE9,hGF9⟩
       try dsimp only
       try simp only [Act.put,List.setIfInBounds_toArray,List.set_cons_zero,List.set_cons_succ]
       refine hK.out _ _ ⟨⟨by simpa using hz,hS.trans hE9.below,hI.raw hz hn hx5 hS.size hO9 hK9 hE9 hGF9⟩,h0.k,h1.k,h2.k,h4.k,h6.k,h7.k,h8.k⟩
      refine StepsL.c 11 [9] (fun l f W hR hn hb K Q2 hK=>?_) ?_
      ·obtain ⟨hS,h0,h1,h2,h4,h6,h7,h8⟩:=hR
       have hb9:=hb 9 (by simp)
       obtain ⟨hz,hS,hO⟩:=hS
       obtain ⟨Gx,Fx,Tx,Ax,nx,hI⟩:=hO
       have hx9:=hb9
       have e9:=(hI.s9 hx9).1
       clear hb
       refine ⟨?_⟩
       simp only [pfs] at hK⊢
       (try simp only [e9] at hK)
       go_simp
       refine hK.out _ _ ⟨⟨by simpa using hz,hS,hI.o10 hz hx9⟩,h0.k,h1.k,h2.k,h4.k,h6.k,h7.k,h8.k⟩
      refine StepsL.c 12 [10] (fun l f W hR hn hb K Q2 hK=>?_) ?_
      ·obtain ⟨hS,h0,h1,h2,h4,h6,h7,h8⟩:=hR
       have hb10:=hb 10 (by simp)
       obtain ⟨hz,hS,hO⟩:=hS
       obtain ⟨Gx,Fx,Tx,Ax,nx,hI⟩:=hO
       have hx10:=hb10
       have e10:=(hI.s10 hx10).2
       clear hb
       refine ⟨?_⟩
       simp only [pfs] at hK⊢
       (try simp only [e10] at hK)
       go_simp
       refine hK.out _ _ ⟨⟨by simpa using hz,hS,hI.o11 hz (hI.s10 hx10).1⟩,h0.k,h1.k,h2.k,h4.k,h6.k,h7.k,h8.k⟩
      refine StepsL.c 13 [10] (fun l f W hR hn hb K Q2 hK=>?_) ?_
      ·obtain ⟨hS,h0,h1,h2,h4,h6,h7,h8⟩:=hR
       have hb10:=hb 10 (by simp)
       obtain ⟨hz,hS,hO⟩:=hS
       obtain ⟨Gx,Fx,Tx,Ax,nx,hI⟩:=hO
       have hx10:=hb10
       have e10:=(hI.s10 hx10).2
       clear hb
       refine ⟨?_⟩
       simp only [pfs] at hK⊢
       (try simp only [e10] at hK)
       go_simp
       refine hK.out _ _ ⟨⟨by simpa using hz,hS,hI.o12 hz (hI.s10 hx10).1⟩,h0.k,h1.k,h2.k,h4.k,h6.k,h7.k,h8.k⟩
      refine StepsL.c 14 [] (fun l f W hR hn hb K Q2 hK=>?_) ?_
      ·obtain ⟨hS,h0,h1,h2,h4,h6,h7,h8⟩:=hR
       obtain ⟨hz,hS,hO⟩:=hS
       obtain ⟨Gx,Fx,Tx,Ax,nx,hI⟩:=hO
       clear hb
       refine ⟨?_⟩
       simp only [pfs] at hK⊢
       go_simp
       refine hK.out _ _ ⟨⟨by simpa using hz,Below.alloc hS hS.size _,hI.o13 hz hn hS.size⟩,h0.k,h1.k,h2.k,h4.k,h6.k,h7.k,h8.k⟩
      refine StepsL.c 15 [] (fun l f W hR hn hb K Q2 hK=>?_) ?_
      ·obtain ⟨hS,h0,h1,h2,h4,h6,h7,h8⟩:=hR
       obtain ⟨hz,hS,hO⟩:=hS
       obtain ⟨Gx,Fx,Tx,Ax,nx,hI⟩:=hO
       clear hb
       refine ⟨?_⟩
       simp only [pfs] at hK⊢
       go_simp
       refine hK.out _ _ ⟨⟨by simpa using hz,Below.alloc hS hS.size _,hI.o14 hz hn hS.size⟩,h0.k,h1.k,h2.k,h4.k,h6.k,h7.k,h8.k⟩
      refine StepsL.c 16 [13,11,9,0,1,2,3,4,5,6,7,8,9,10,11,13,14] (fun l f W hR hn hb K Q2 hK=>?_) ?_
      ·obtain ⟨hS,h0,h1,h2,h4,h6,h7,h8⟩:=hR
       have q0:=h0.out (hb 0 (by simp))
       have q1:=h1.out (hb 1 (by simp))
       have q2:=h2.out (hb 2 (by simp))
       have q4:=h4.out (hb 4 (by simp))
       have q6:=h6.out (hb 6 (by simp))
       have q7:=h7.out (hb 7 (by simp))
       have q8:=h8.out (hb 8 (by simp))
       have hb1:=hb 1 (by simp)
       have hb11:=hb 11 (by simp)
       have hb13:=hb 13 (by simp)
       obtain ⟨hz,hS,hO⟩:=hS
       obtain ⟨Gx,Fx,Tx,Ax,nx,hI⟩:=hO
       have hx13:=hb13
       have hx11:=hb11
       obtain ⟨g,xs,bx,hxs,_⟩:=hI.s13 hx13
       obtain rfl:=hxs hn
       have e11:=(hI.s11 hx11).2
       have ep:=bx.ptr
       obtain ⟨cX,fX,zX⟩:=blk bx.blk
       clear hb
       refine ⟨?_⟩
       simp only [pfs] at hK⊢
       (try simp only [q0,q1,q2,q4,q6,q7,q8,e11,ep] at hK)
       go_simp
       refine hK.out undef _ ⟨⟨by simpa using hz,dom_below hS bx.rng.1,hI.st15 hz hx13 hx11 bx.ptr bx.rng.1 bx.rng.2 bx.ng bx.nf (by simp) (fun b hb=>dom_far hb) (fun b xs hb e=>by subst e;rw [bx.blk] at hb;injection hb with hb;injection hb with _ ht;exact absurd ht (by decide)) (dom_set bx.blk)⟩,h0.k,h1.k,h2.k,h4.k,h6.k,h7.k,h8.k⟩
      refine StepsL.c 17 [14,12,15,0,1,2,3,4,5,6,7,8,9,10,11,12,13,14,15] (fun l f W hR hn hb K Q2 hK=>?_) ?_
      ·obtain ⟨hS,h0,h1,h2,h4,h6,h7,h8⟩:=hR
       have q0:=h0.out (hb 0 (by simp))
       have q1:=h1.out (hb 1 (by simp))
       have q2:=h2.out (hb 2 (by simp))
       have q4:=h4.out (hb 4 (by simp))
       have q6:=h6.out (hb 6 (by simp))
       have q7:=h7.out (hb 7 (by simp))
       have q8:=h8.out (hb 8 (by simp))
       have hb1:=hb 1 (by simp)
       have hb12:=hb 12 (by simp)
       have hb14:=hb 14 (by simp)
       obtain ⟨hz,hS,hO⟩:=hS
       obtain ⟨Gx,Fx,Tx,Ax,nx,hI⟩:=hO
       have hx14:=hb14
       have hx12:=hb12
       obtain ⟨g,xs,bx,hxs,_⟩:=hI.s14 hx14
       obtain rfl:=hxs hn
       have e12:=(hI.s12 hx12).2
       have ep:=bx.ptr
       obtain ⟨cX,fX,zX⟩:=blk bx.blk
       clear hb
       refine ⟨?_⟩
       simp only [pfs] at hK⊢
       (try simp only [q0,q1,q2,q4,q6,q7,q8,e12,ep] at hK)
       go_simp
       refine hK.out undef _ ⟨⟨by simpa using hz,Below.setCell hS bx.rng.1 _,hI.st16 hz hx14 hx12 bx.ptr bx.rng.1 bx.rng.2 bx.ng bx.nf (by simp) (fun b hb=>Below.heap_setCell _ _ _ _ hb) (fun b xs hb e=>by subst e;rw [bx.blk] at hb;injection hb with hb;injection hb with _ ht;exact absurd ht (by decide)) (by have:=heap_set_same (i:=0) (u:= .slice Ax k1.length nx) bx.blk;simpa using this)⟩,h0.k,h1.k,h2.k,h4.k,h6.k,h7.k,h8.k⟩
      exact StepsL.nil
     ·intro l f W hR hall
      obtain ⟨hS,h0,h1,h2,h4,h6,h7,h8⟩:=hR
      have q0:=h0.out (hall 0 (by decide))
      have q1:=h1.out (hall 1 (by decide))
      have q2:=h2.out (hall 2 (by decide))
      have q4:=h4.out (hall 4 (by decide))
      have q6:=h6.out (hall 6 (by decide))
      have q7:=h7.out (hall 7 (by decide))
      have q8:=h8.out (hall 8 (by decide))
      clear h0 h1 h2 h4 h6 h7 h8
      obtain ⟨hz,hS,hO⟩:=hS
      obtain ⟨Gx,Fx,Tx,Ax,nx,hI⟩:=hO
      have hx9:=hall 9 (by decide)
      obtain ⟨e62,hO9,hK9⟩:=hI.s9 hx9
      obtain ⟨g18,xs18,bx18,_,e18⟩:=hI.s13 (hall 13 (by decide))
      obtain ⟨g19,xs19,bx19,_,e19⟩:=hI.s14 (hall 14 (by decide))
      obtain ⟨_,rfl⟩:=e18 (hall 15 (by decide))
      obtain ⟨_,rfl⟩:=e19 (hall 16 (by decide))
      have p18:=bx18.ptr
      have p19:=bx19.ptr
      simp only [pfs]
      simp only [p18,p19]
      have hbW:Below w.heap.size w W:=h_w3.trans (hS.mono s_w3)
      have r9:=(hS.block _ z_r).trans r_w3
      have q9:=(hS.block _ z_q).trans q_w3
      obtain ⟨c18,f18,z18⟩:=blk bx18.blk
      obtain ⟨c19,f19,z19⟩:=blk bx19.blk
      obtain ⟨cr9,fr9,zr9⟩:=blk r9
      obtain ⟨cq9,fq9,zq9⟩:=blk q9
      have t18:=bx18.rng.1
      have t19:=bx19.rng.1
      have n1:g18≠w.heap.size+3:=by omega
      have n2:g18≠w.heap.size+4:=by omega
      have n3:g19≠w.heap.size+3:=by omega
      have n4:g19≠w.heap.size+4:=by omega
      have k1':¬ g18=w.heap.size+1+1+1:=n1
      have k2':¬ g18=w.heap.size+1+1+1+1:=n2
      have k3':¬ g19=w.heap.size+1+1+1:=n3
      have k4':¬ g19=w.heap.size+1+1+1+1:=n4
      have gG:Hid (∀i b,Gx i b→w3.heap.size≤b):=zH fun i b hb=>(hI.gr i b hb).1
      have gF:Hid (∀b,Fx b→w3.heap.size≤b∧b < W.heap.size):=zH hI.fr
      replace hO9:=zH hO9
      replace hK9:=zH hK9
      have e190:W.cell? ⟨g19,0,none⟩=some (.slice Ax k1.length nx):=c19 0
      clear q0 q1 q2 q4 q6 q7 q8 hall hI e62 p18 p19 bx18 bx19 hx9
      go_wp2_with fail
      go_region_held3 (fun w'=>(∀oo,w'.cell? ⟨g18,oo,none⟩=#[.slice Tx.a0 d1.jobs.length Tx.n0,.slice Tx.a1 d1.released.length Tx.n1,.int .i64 d1.next,.slice Tx.a2 d1.ins.length Tx.n2,.slice Tx.a3 d1.taken.length Tx.n3,.slice Tx.a4 d1.outs.length Tx.n4,.slice Tx.a5 d1.events.length Tx.n5][oo]?)∧w'.cell? ⟨g19,0,none⟩=some (.slice Ax k1.length nx)) (((try dsimp only);(repeat' apply And.intro)<;>(first|(intro oo;with_reducible refine (cell_heapD (raw_far ?_ ?_) oo).trans (c18 oo)<;>omega)|(intro oo;with_reducible refine (cell_heapD (dom_far_d ?_) oo).trans (c18 oo)<;>omega)|(intro oo;with_reducible exact (cell_heapD (drew_far _ _) oo).trans (c18 oo))|(with_reducible refine (cell_heapD (raw_far ?_ ?_) 0).trans e190<;>omega)|(with_reducible refine (cell_heapD (dom_far_d ?_) 0).trans e190<;>omega)|(with_reducible exact (cell_heapD (drew_far _ _) 0).trans e190)|go_keep))) (fail)
      go_wp2_with fail
      have e3:=dom_set (u0:= .slice Tx.a0 d1.jobs.length Tx.n0) (u1:= .slice Tx.a1 d1.released.length Tx.n1) (u2:= .int .i64 d1.next) (u3:= .slice Tx.a2 d1.ins.length Tx.n2) (u4:= .slice Tx.a3 d1.taken.length Tx.n3) (u5:= .slice Tx.a4 d1.outs.length Tx.n4) (u6:= .slice Tx.a5 d1.events.length Tx.n5) r9
      obtain ⟨c9,f9,z9⟩:=blk (heap_set_far (p:=⟨w.heap.size+4,0,none⟩) (u:= .slice Ax k1.length nx) e3 (by simp))
      obtain ⟨c8,f8,z8⟩:=blk (heap_set_same (i:=0) (u:= .slice Ax k1.length nx) ((dom_far (u0:= .slice Tx.a0 d1.jobs.length Tx.n0) (u1:= .slice Tx.a1 d1.released.length Tx.n1) (u2:= .int .i64 d1.next) (u3:= .slice Tx.a2 d1.ins.length Tx.n2) (u4:= .slice Tx.a3 d1.taken.length Tx.n3) (u5:= .slice Tx.a4 d1.outs.length Tx.n4) (u6:= .slice Tx.a5 d1.events.length Tx.n5) (show w.heap.size+4≠w.heap.size+3 by omega)).trans q9))
      refine bodyPost_ret (v:= .tuple #[.agg #[.slice Tx.a0 d1.jobs.length Tx.n0,.slice Tx.a1 d1.released.length Tx.n1,.int .i64 d1.next,.slice Tx.a2 d1.ins.length Tx.n2,.slice Tx.a3 d1.taken.length Tx.n3,.slice Tx.a4 d1.outs.length Tx.n4,.slice Tx.a5 d1.events.length Tx.n5],.agg #[.slice Ax k1.length nx],.int .i64 0]) (by simp [results,Try.results32,go_sem, *]) rfl ?_
      exact ⟨Tx,Gx,Ax,nx,Fx,rfl,hO9.out.keep (fun i b hi=>raw_far (by have:=gG.out i b hi;omega) (by have:=gG.out i b hi;omega)) (by simp),OSl.keep hK9.out fun b hf=>raw_far (by have:=gF.out b hf;omega) (by have:=gF.out b hf;omega),fun i b hi=>by have:=gG.out i b hi;omega,fun b hf=>⟨by have:=gF.out b hf;omega,by have:=(gF.out b hf).2;simpa using this⟩,raw_below hbW (by omega) (by omega)⟩
   ·have W3:winErr c m d k ac from_ to_=actsErr ac:=by rw [W2];unfold thenE;rw [if_neg e3]
    obtain ⟨R1,R2⟩:=R0 _ e3 W3
    rw [R1,R2,W3]
    have b1:(actsErr ac !=0)=true:=by simp [e3]
    have b2:(actsErr ac==0)=false:=by simp [e3]
    clear R0 R1 R2 W1 W2 W3 e1 e2 e3 hs hd hk hA
    generalize actsErr ac=AE at*
    go_enter Try.func32,Try.ntmps32
    go_wp2_with fail
    (go_at_call 70;refine (H1.out _ byB).mono ?_;rintro e w1 ⟨rfl,hb_w1⟩;refine kbb (show w1.heap[w.heap.size]?=some (.cells #[.int .i64 c.sets,.int .i64 c.ways,.int .i64 c.doms,.int .i64 c.pad,.int .i64 c.quantum,.slice S.a0 c.slots.length S.n0,.slice S.a1 c.owners.length S.n1,.slice S.a2 c.chans.length S.n2,.slice S.a3 c.tasks.length S.n3] 27) from (hb_w1.block _ byS).trans byH) (fun c_w1 cc_w1 fc_w1 zc_w1=>?_);refine kbb (show w1.heap[w.heap.size+1]?=some (.cells #[.slice T.a0 d.jobs.length T.n0,.slice T.a1 d.released.length T.n1,.int .i64 d.next,.slice T.a2 d.ins.length T.n2,.slice T.a3 d.taken.length T.n3,.slice T.a4 d.outs.length T.n4,.slice T.a5 d.events.length T.n5] 45) from (hb_w1.block _ byS).trans byH) (fun d_w1 cd_w1 fd_w1 zd_w1=>?_);refine kbb (show w1.heap[w.heap.size+2]?=some (.cells #[.slice Ak k.length nk] 63) from (hb_w1.block _ byS).trans byH) (fun k_w1 ck_w1 fk_w1 zk_w1=>?_);refine kbb (show w1.heap[w.heap.size+3]?=some (.cells #[.slice none 0 0,.slice none 0 0,.int .i64 0,.slice none 0 0,.slice none 0 0,.slice none 0 0,.slice none 0 0] 45) from (hb_w1.block _ byS).trans byH) (fun r_w1 cr_w1 fr_w1 zr_w1=>?_);refine kbb (show w1.heap[w.heap.size+4]?=some (.cells #[.slice none 0 0] 63) from (hb_w1.block _ byS).trans byH) (fun q_w1 cq_w1 fq_w1 zq_w1=>?_);refine armT w hb_w1 (fun h_w1 s_w1 t_w1 hb_w1=>?_);(try simp at t_w1))
    go_wp2_with fail
    (go_at_call 63;refine (H2.out _ byB).mono ?_;rintro e w2 ⟨rfl,hb_w2⟩;refine kbb (kb c_w1 hb_w2) (fun c_w2 cc_w2 fc_w2 zc_w2=>?_);refine kbb (kb d_w1 hb_w2) (fun d_w2 cd_w2 fd_w2 zd_w2=>?_);refine kbb (kb k_w1 hb_w2) (fun k_w2 ck_w2 fk_w2 zk_w2=>?_);refine kbb (kb r_w1 hb_w2) (fun r_w2 cr_w2 fr_w2 zr_w2=>?_);refine kbb (kb q_w1 hb_w2) (fun q_w2 cq_w2 fq_w2 zq_w2=>?_);refine armT w hb_w2 (fun h_w2 s_w2 t_w2 hb_w2=>?_);(try simp at t_w2);clear c_w1 cc_w1 fc_w1 d_w1 cd_w1 fd_w1 k_w1 ck_w1 fk_w1 r_w1 cr_w1 fr_w1 q_w1 cq_w1 fq_w1)
    go_wp2_with fail
    (go_at_call 71;refine (H3.out _ byB).mono ?_;rintro e w3 ⟨rfl,hb_w3⟩;refine kbb (kb c_w2 hb_w3) (fun c_w3 cc_w3 fc_w3 zc_w3=>?_);refine kbb (kb d_w2 hb_w3) (fun d_w3 cd_w3 fd_w3 zd_w3=>?_);refine kbb (kb k_w2 hb_w3) (fun k_w3 ck_w3 fk_w3 zk_w3=>?_);refine kbb (kb r_w2 hb_w3) (fun r_w3 cr_w3 fr_w3 zr_w3=>?_);refine kbb (kb q_w2 hb_w3) (fun q_w3 cq_w3 fq_w3 zq_w3=>?_);refine armT w hb_w3 (fun h_w3 s_w3 t_w3 hb_w3=>?_);(try simp at t_w3);clear c_w2 cc_w2 fc_w2 d_w2 cd_w2 fd_w2 k_w2 ck_w2 fk_w2 r_w2 cr_w2 fr_w2 q_w2 cq_w2 fq_w2)
    go_wp2_with fail
    have e3:=dom_set (u0:= .slice none 0 0) (u1:= .slice none 0 0) (u2:= .int .i64 0) (u3:= .slice none 0 0) (u4:= .slice none 0 0) (u5:= .slice none 0 0) (u6:= .slice none 0 0) r_w3
    obtain ⟨c9,f9,z9⟩:=blk (heap_set_far (p:=⟨w.heap.size+4,0,none⟩) (u:= .slice none 0 0) e3 (by simp))
    obtain ⟨c8,f8,z8⟩:=blk (heap_set_same (i:=0) (u:= .slice none 0 0) ((dom_far (u0:= .slice none 0 0) (u1:= .slice none 0 0) (u2:= .int .i64 0) (u3:= .slice none 0 0) (u4:= .slice none 0 0) (u5:= .slice none 0 0) (u6:= .slice none 0 0) (show w.heap.size+4≠w.heap.size+3 by omega)).trans q_w3))
    refine bodyPost_ret (v:= .tuple #[.agg #[.slice none 0 0,.slice none 0 0,.int .i64 0,.slice none 0 0,.slice none 0 0,.slice none 0 0,.slice none 0 0],.agg #[.slice none 0 0],.int .i64 AE]) (by simp [results,Try.results32,go_sem, *]) rfl ?_
    exact ⟨noDomS,fun _ _=>False,none,0,fun _=>False,rfl,noDom_own _,ocache_nil _ _,fun _ _ h=>h.elim,fun _ h=>h.elim,raw0_below h_w3 (by omega) (by omega)⟩
  ·have W2:winErr c m d k ac from_ to_=checkCache k:=by rw [W1];unfold thenE;rw [if_neg e2]
   obtain ⟨R1,R2⟩:=R0 _ e2 W2
   rw [R1,R2,W2]
   have b1:(checkCache k !=0)=true:=by simp [e2]
   have b2:(checkCache k==0)=false:=by simp [e2]
   clear R0 R1 R2 W1 W2 e1 e2 hs hd hk hA
   generalize checkCache k=KE at*
   go_enter Try.func32,Try.ntmps32
   go_wp2_with fail
   (go_at_call 70;refine (H1.out _ byB).mono ?_;rintro e w1 ⟨rfl,hb_w1⟩;refine kbb (show w1.heap[w.heap.size]?=some (.cells #[.int .i64 c.sets,.int .i64 c.ways,.int .i64 c.doms,.int .i64 c.pad,.int .i64 c.quantum,.slice S.a0 c.slots.length S.n0,.slice S.a1 c.owners.length S.n1,.slice S.a2 c.chans.length S.n2,.slice S.a3 c.tasks.length S.n3] 27) from (hb_w1.block _ byS).trans byH) (fun c_w1 cc_w1 fc_w1 zc_w1=>?_);refine kbb (show w1.heap[w.heap.size+1]?=some (.cells #[.slice T.a0 d.jobs.length T.n0,.slice T.a1 d.released.length T.n1,.int .i64 d.next,.slice T.a2 d.ins.length T.n2,.slice T.a3 d.taken.length T.n3,.slice T.a4 d.outs.length T.n4,.slice T.a5 d.events.length T.n5] 45) from (hb_w1.block _ byS).trans byH) (fun d_w1 cd_w1 fd_w1 zd_w1=>?_);refine kbb (show w1.heap[w.heap.size+2]?=some (.cells #[.slice Ak k.length nk] 63) from (hb_w1.block _ byS).trans byH) (fun k_w1 ck_w1 fk_w1 zk_w1=>?_);refine kbb (show w1.heap[w.heap.size+3]?=some (.cells #[.slice none 0 0,.slice none 0 0,.int .i64 0,.slice none 0 0,.slice none 0 0,.slice none 0 0,.slice none 0 0] 45) from (hb_w1.block _ byS).trans byH) (fun r_w1 cr_w1 fr_w1 zr_w1=>?_);refine kbb (show w1.heap[w.heap.size+4]?=some (.cells #[.slice none 0 0] 63) from (hb_w1.block _ byS).trans byH) (fun q_w1 cq_w1 fq_w1 zq_w1=>?_);refine armT w hb_w1 (fun h_w1 s_w1 t_w1 hb_w1=>?_);(try simp at t_w1))
   go_wp2_with fail
   (go_at_call 63;refine (H2.out _ byB).mono ?_;rintro e w2 ⟨rfl,hb_w2⟩;refine kbb (kb c_w1 hb_w2) (fun c_w2 cc_w2 fc_w2 zc_w2=>?_);refine kbb (kb d_w1 hb_w2) (fun d_w2 cd_w2 fd_w2 zd_w2=>?_);refine kbb (kb k_w1 hb_w2) (fun k_w2 ck_w2 fk_w2 zk_w2=>?_);refine kbb (kb r_w1 hb_w2) (fun r_w2 cr_w2 fr_w2 zr_w2=>?_);refine kbb (kb q_w1 hb_w2) (fun q_w2 cq_w2 fq_w2 zq_w2=>?_);refine armT w hb_w2 (fun h_w2 s_w2 t_w2 hb_w2=>?_);(try simp at t_w2);clear c_w1 cc_w1 fc_w1 d_w1 cd_w1 fd_w1 k_w1 ck_w1 fk_w1 r_w1 cr_w1 fr_w1 q_w1 cq_w1 fq_w1)
   go_wp2_with fail
   have e3:=dom_set (u0:= .slice none 0 0) (u1:= .slice none 0 0) (u2:= .int .i64 0) (u3:= .slice none 0 0) (u4:= .slice none 0 0) (u5:= .slice none 0 0) (u6:= .slice none 0 0) r_w2
   obtain ⟨c9,f9,z9⟩:=blk (heap_set_far (p:=⟨w.heap.size+4,0,none⟩) (u:= .slice none 0 0) e3 (by simp))
   obtain ⟨c8,f8,z8⟩:=blk (heap_set_same (i:=0) (u:= .slice none 0 0) ((dom_far (u0:= .slice none 0 0) (u1:= .slice none 0 0) (u2:= .int .i64 0) (u3:= .slice none 0 0) (u4:= .slice none 0 0) (u5:= .slice none 0 0) (u6:= .slice none 0 0) (show w.heap.size+4≠w.heap.size+3 by omega)).trans q_w2))
   refine bodyPost_ret (v:= .tuple #[.agg #[.slice none 0 0,.slice none 0 0,.int .i64 0,.slice none 0 0,.slice none 0 0,.slice none 0 0,.slice none 0 0],.agg #[.slice none 0 0],.int .i64 KE]) (by simp [results,Try.results32,go_sem, *]) rfl ?_
   exact ⟨noDomS,fun _ _=>False,none,0,fun _=>False,rfl,noDom_own _,ocache_nil _ _,fun _ _ h=>h.elim,fun _ h=>h.elim,raw0_below h_w2 (by omega) (by omega)⟩
 ·have W1:winErr c m d k ac from_ to_=checkBoth c m d:=by unfold winErr thenE;rw [if_neg e1]
  obtain ⟨R1,R2⟩:=R0 _ e1 W1
  rw [R1,R2,W1]
  have b1:(checkBoth c m d !=0)=true:=by simp [e1]
  have b2:(checkBoth c m d==0)=false:=by simp [e1]
  clear R0 R1 R2 W1 e1 hs hd hk hA
  generalize checkBoth c m d=BE at*
  go_enter Try.func32,Try.ntmps32
  go_wp2_with fail
  (go_at_call 70;refine (H1.out _ byB).mono ?_;rintro e w1 ⟨rfl,hb_w1⟩;refine kbb (show w1.heap[w.heap.size]?=some (.cells #[.int .i64 c.sets,.int .i64 c.ways,.int .i64 c.doms,.int .i64 c.pad,.int .i64 c.quantum,.slice S.a0 c.slots.length S.n0,.slice S.a1 c.owners.length S.n1,.slice S.a2 c.chans.length S.n2,.slice S.a3 c.tasks.length S.n3] 27) from (hb_w1.block _ byS).trans byH) (fun c_w1 cc_w1 fc_w1 zc_w1=>?_);refine kbb (show w1.heap[w.heap.size+1]?=some (.cells #[.slice T.a0 d.jobs.length T.n0,.slice T.a1 d.released.length T.n1,.int .i64 d.next,.slice T.a2 d.ins.length T.n2,.slice T.a3 d.taken.length T.n3,.slice T.a4 d.outs.length T.n4,.slice T.a5 d.events.length T.n5] 45) from (hb_w1.block _ byS).trans byH) (fun d_w1 cd_w1 fd_w1 zd_w1=>?_);refine kbb (show w1.heap[w.heap.size+2]?=some (.cells #[.slice Ak k.length nk] 63) from (hb_w1.block _ byS).trans byH) (fun k_w1 ck_w1 fk_w1 zk_w1=>?_);refine kbb (show w1.heap[w.heap.size+3]?=some (.cells #[.slice none 0 0,.slice none 0 0,.int .i64 0,.slice none 0 0,.slice none 0 0,.slice none 0 0,.slice none 0 0] 45) from (hb_w1.block _ byS).trans byH) (fun r_w1 cr_w1 fr_w1 zr_w1=>?_);refine kbb (show w1.heap[w.heap.size+4]?=some (.cells #[.slice none 0 0] 63) from (hb_w1.block _ byS).trans byH) (fun q_w1 cq_w1 fq_w1 zq_w1=>?_);refine armT w hb_w1 (fun h_w1 s_w1 t_w1 hb_w1=>?_);(try simp at t_w1))
  go_wp2_with fail
  have e3:=dom_set (u0:= .slice none 0 0) (u1:= .slice none 0 0) (u2:= .int .i64 0) (u3:= .slice none 0 0) (u4:= .slice none 0 0) (u5:= .slice none 0 0) (u6:= .slice none 0 0) r_w1
  obtain ⟨c9,f9,z9⟩:=blk (heap_set_far (p:=⟨w.heap.size+4,0,none⟩) (u:= .slice none 0 0) e3 (by simp))
  obtain ⟨c8,f8,z8⟩:=blk (heap_set_same (i:=0) (u:= .slice none 0 0) ((dom_far (u0:= .slice none 0 0) (u1:= .slice none 0 0) (u2:= .int .i64 0) (u3:= .slice none 0 0) (u4:= .slice none 0 0) (u5:= .slice none 0 0) (u6:= .slice none 0 0) (show w.heap.size+4≠w.heap.size+3 by omega)).trans q_w1))
  refine bodyPost_ret (v:= .tuple #[.agg #[.slice none 0 0,.slice none 0 0,.int .i64 0,.slice none 0 0,.slice none 0 0,.slice none 0 0,.slice none 0 0],.agg #[.slice none 0 0],.int .i64 BE]) (by simp [results,Try.results32,go_sem, *]) rfl ?_
  exact ⟨noDomS,fun _ _=>False,none,0,fun _=>False,rfl,noDom_own _,ocache_nil _ _,fun _ _ h=>h.elim,fun _ h=>h.elim,raw0_below h_w1 (by omega) (by omega)⟩
end Go.Proofs.Ytinlmkhlgclbfab
