/- WinK -/
import Derived.Test.YtinlmkhlgclbfabDoorAs24
namespace Go.Proofs.YtinlmkhlgclbfabDoor
open Go.RowKit
set_option maxRecDepth 100000
set_option maxHeartbeats 8000000
section
variable {gr gk : Nat} {G : Nat → Nat → Prop} {F : Nat → Prop} {B : Nat} {w : World} {c : TCfg} {S : TCfgS} {m : Int} {d : TDom} {T : TDomS} {k : List (List TWay)} {Ak : Option Addr} {nk : Nat} {ac : List TAct} {Al : Option Addr} {nl : Nat} {now to_ : Int}
theorem runnerDo (h:Rn gr gk G F B w c S m d T k Ak nk ac Al nl now to_)(hc:CfgOk c)(hd:DomOkW c m d)(ok:CacheOk k){i:Nat}(hi:i < d.jobs.length)(a:TAct)(ha:ActOk a)(hx:d.next < 100000)(hnow:0≤now∧now≤100000)(hn:d.events.length+4≤4398046511104)(ho:∀j,j < d.outs.length→(nth d.outs j).length+1≤4398046511104):
  Calls Tryd.prog 73 #[.pointer (some ⟨gr,0,none⟩),.int .i64 i,.agg #[.int .i64 a.kind,.int .i64 a.n,.int .i64 a.value]] w fun e w'=>RetRn gr gk G F B w c S m (doA c m now i a (spendN k a) d) T.a0 (spendK k a) Ak nk ac Al nl (now+spendN k a) to_ e w':=by
 obtain ⟨gj,ej,_,hgj,hjr,hjk,hjc,hjf,_⟩:=h.job hi
 have HS:=zH (fun W hx hb=>DoM.start (a:=a) (W:=W) h hx hb)
 rw [ej] at HS⊢
 have hbk:=h.blk
 have hkk:=h.kp.blk
 rw [ej] at hkk
 obtain ⟨cb,fb,zb⟩:=blk hbk
 obtain ⟨ck,fk,zk⟩:=blk hkk
 have j0:=hjc 0 _ rfl
 have j1:=hjc 1 _ rfl
 have j4:=hjc 4 _ rfl
 have i0:(0:Int)≤i:=by omega
 have i1:(i:Int) < d.jobs.length:=by omega
 have hcost:=spend_bd (k:=k) ha
 clear h hjc ej
 obtain ⟨X,hX⟩:∃X,X=doA c m now i a (spendN k a) d:=⟨_,rfl⟩
 rw [← hX]
 replace hX:=zH hX
 go_enter Tryd.func73,Tryd.ntmps73
 go_upto_if 23 with (fail)
 have hD0:=HS.out (w.alloc (.cells #[.int .i64 a.kind,.int .i64 a.n,.int .i64 a.value] 52)) (heap_alloc_new _ _) byB
 generalize hW:w.alloc (.cells #[.int .i64 a.kind,.int .i64 a.n,.int .i64 a.value] 52)=W0 at*
 clear hW HS cb fb zb ck fk zk hjf j0 j1 j4 hkk hbk
 have hs:=startJ_ok (now:=now) hd hi
 go_cut [] from 20 (fun wx=>DoM gr gk G F B w c S m (some ⟨gj,0,none⟩) k Ak nk ac Al nl to_ a (startJ now i d) now wx)
 case first=>
  obtain ⟨T1,hA1,br,bk,bx⟩:=hD0.blocks
  rw [hA1] at bk
  obtain ⟨hg0,_,_,hjc,hjf,hset⟩:=hD0.setJob hi
  have j4:=hjc 4 _ rfl
  obtain ⟨cr,fr,zr⟩:=blk br
  obtain ⟨ck,fk,zk⟩:=blk bk
  replace hset:=zH hset
  clear hjc hA1 bx br bk
  cases hran:(nth d.jobs i).ran with
  |false=>
   have e1:startJ now i d=tellOf {d with jobs:=d.jobs.set i {nth d.jobs i with ran:=true} } now 3 (nth d.jobs i).task (nth d.jobs i).number:=by unfold startJ;rw [hran];rfl
   rw [hran] at j4
   have hD1:=hset.out 4 (.bool true) {nth d.jobs i with ran:=true} (by omega) rfl
   have hi1:i < ({d with jobs:=d.jobs.set i {nth d.jobs i with ran:=true} } :TDom).jobs.length:=by simpa using hi
   obtain ⟨T2,hA2,br2,bk2,_⟩:=hD1.blocks
   obtain ⟨hg2,_,_,hjc2,_,_⟩:=hD1.setJob hi1
   have hnx:nth (d.jobs.set i {nth d.jobs i with ran:=true}) i= {nth d.jobs i with ran:=true} :=nth_set_self hi
   dsimp only at hjc2
   rw [hnx] at hjc2
   have p0:(W0.setCell ⟨gj,i*6+4,none⟩ (.bool true)).cell? ⟨gj,i*6,none⟩=some (.int .i64 (nth d.jobs i).task):=hjc2 0 _ rfl
   have p1:(W0.setCell ⟨gj,i*6+4,none⟩ (.bool true)).cell? ⟨gj,i*6+1,none⟩=some (.int .i64 (nth d.jobs i).number):=hjc2 1 _ rfl
   replace e1:=zH e1
   have HT:=zH (fun W3 (hb:Below (W0.setCell ⟨gj,i*6+4,none⟩ (.bool true)).heap.size (W0.setCell ⟨gj,i*6+4,none⟩ (.bool true)) W3) t kd x y=>(hD1.ext hb).tell t kd x y (show d.events.length+1≤_ by omega))
   clear hD1 hset hjc2 hnx hA2 hs hD0
   go_upto_region 4 with (fail)
   generalize W0.setCell ⟨gj,i*6+4,none⟩ (.bool true)=W1 at*
   obtain ⟨cr2,fr2,zr2⟩:=blk br2
   clear bk2 cr fr zr ck fk zk
   (refine wp_region_still_tail 16 (by kernel_rfl) (by kernel_rfl) ?_;simp only [List.take_succ_cons,List.take_zero,List.drop_succ_cons,List.drop_zero];(iterate 16 (with_reducible refine wpStill_step (fun K hK=>?_);replace hK:=zH hK;go_simp;with_reducible refine hK.out _ ?_;clear hK K));refine wpStill_nil ?_)
   go_wp2_with fail
   go_at_call 82
   refine (HT.out _ byB _ _ _ _).mono ?_
   rintro e w1 ⟨rfl,hD2⟩
   replace hD2:=zH hD2
   go_wp2_with fail
   go_meet
   rw [e1.out]
   exact hD2.out
  |true=>
   have e1:startJ now i d=d:=by unfold startJ;rw [hran];rfl
   rw [hran] at j4
   replace e1:=zH e1
   replace hD0:=zH hD0
   clear hset hs
   go_wp2_with fail
   go_meet
   rw [e1.out]
   exact hD0.out
 case rest=>
  obtain ⟨W1,rfl⟩:∃X,X=wc:=⟨_,rfl⟩
  have hD:=hcut
  have l1:(startJ now i d).jobs.length=d.jobs.length:=hs.2
  have nx:(startJ now i d).next=d.next:=by unfold startJ;split<;>rfl
  have lo:(startJ now i d).outs=d.outs:=by unfold startJ;split<;>rfl
  have lv:(startJ now i d).events.length≤d.events.length+1:=by unfold startJ;split<;>simp [tellOf]
  have hI:=usedJ_ok (cost:=spendN k a) hc hs.1 (by rw [l1];exact hi) (by rw [nx];exact hx) (by omega)
  replace hX:Hid (X=endJ c (now+spendN k a) a i (midJ c m (now+spendN k a) a (spendN k a) (usedJ (spendN k a) i (startJ now i d)))):=hX
  clear hs hcut hD0
  generalize startJ now i d=ds at*
  have hi1:i < ds.jobs.length:=by omega
  have hu0:=hI.jobi.2
  have hu1:nth (usedJ (spendN k a) i ds).jobs i= {nth ds.jobs i with used:=(nth ds.jobs i).used+spendN k a} :=nth_set_self hi1
  rw [hu1] at hu0
  dsimp only at hu0
  obtain ⟨co,hco⟩:∃co,co=spendN k a:=⟨_,rfl⟩
  rw [← hco] at hI hu1 hu0 hcost hX
  obtain ⟨T1,hA1,br,bk,bx⟩:=hD.blocks
  obtain ⟨cr,fr,zr⟩:=blk br
  obtain ⟨cx,fx,zx⟩:=blk bx
  have H5:=zH (fun W (hb:Below W1.heap.size W1 W)=>(hD.ext hb).spend ok ha)
  rw [← hco] at H5
  replace hco:=zH hco
  replace nx:=zH nx
  replace l1:=zH l1
  replace lo:=zH lo
  clear br bk bx hA1 hD
  obtain ⟨n0,n1⟩:=hnow
  obtain ⟨c0,c1,c2⟩:=hcost
  obtain ⟨u0,u1⟩:=hu0
  have nb:ds.next < 100000∧-1≤ds.next:=by have:=hI.next;have e:(usedJ co i ds).next=ds.next+1:=rfl;omega
  obtain ⟨nb0,nb1⟩:=nb
  go_upto_region 5 with (fail)
  (refine wp_region_still_tail 5 (by kernel_rfl) (by kernel_rfl) ?_;simp only [List.take_succ_cons,List.take_zero,List.drop_succ_cons,List.drop_zero];(iterate 5 (with_reducible refine wpStill_step (fun K hK=>?_);replace hK:=zH hK;go_simp;with_reducible refine hK.out _ ?_;clear hK K));refine wpStill_nil ?_)
  go_wp2_with fail
  go_at_call 86
  refine (H5.out _ byB).mono ?_
  rintro e W2 ⟨rfl,hD2⟩
  obtain ⟨T2,hA2,br2,bk2,bx2⟩:=hD2.blocks
  obtain ⟨hg2,n1r,n1k,hjc2,hjf2,hset2⟩:=hD2.setJob hi1
  have p3:W2.cell? ⟨gj,i*6+3,none⟩=some (.int .i64 (nth ds.jobs i).used):=hjc2 3 _ rfl
  obtain ⟨cr2,fr2,zr2⟩:=blk br2
  obtain ⟨ck2,fk2,zk2⟩:=blk bk2
  have hD3:=hD2.time (now+co)
  have hD4:=(hD3.setJob hi1).2.2.2.2.2 3 (.int .i64 ((nth ds.jobs i).used+co)) {nth ds.jobs i with used:=(nth ds.jobs i).used+co} (by omega) rfl
  have hD5:=zH (hD4.next (ds.next+1))
  have hgrk:gr≠gk:=by obtain ⟨G',T',h⟩:=hD2;exact h.2.1.grk
  clear hD2 hD3 hD4 hA2 br2 bk2 bx2 hjc2 hset2 H5 hu1
  go_upto_region 9 with (fail)
  generalize hW5:((W2.setCell ⟨gr,3,none⟩ (.int .i64 (now+co))).setCell ⟨gj,i*6+3,none⟩ (.int .i64 ((nth ds.jobs i).used+co))).setCell ⟨gk,12,none⟩ (.int .i64 (ds.next+1))=W5 at*
  obtain ⟨T5,hA5,br5,bk5,bx5⟩:=hD5.out.blocks
  obtain ⟨cx5,fx5,zx5⟩:=blk bx5
  have H9:=zH (fun W (hb:Below W5.heap.size W5 W)=>(hD5.out.ext hb).refused hc ha)
  clear hW5 cr fr zr cx fx zx cr2 fr2 zr2 ck2 fk2 zk2 p3 br5 bk5 bx5 hA5
  go_wp2_with fail
  go_at_call 87
  refine (H9.out _ byB).mono ?_
  rintro e W6 ⟨rfl,hD6⟩
  go_upto_if 80 with (fail)
  have hD6:DoM gr gk G F B w c S m (some ⟨gj,0,none⟩) (spendK k a) Ak nk ac Al nl to_ a (usedJ co i ds) (now+co) W6:=hD6
  have du1:(usedJ co i ds).events=ds.events:=rfl
  have du2:(usedJ co i ds).outs=d.outs:=lo.out
  have du3:(usedJ co i ds).jobs.length=ds.jobs.length:=by simp [usedJ]
  have ho2:∀j,j < (usedJ co i ds).outs.length→(nth (usedJ co i ds).outs j).length+1≤4398046511104:=by rw [du2];exact ho
  rw [← du1] at lv
  replace lv:=zH lv
  clear du1 du2 ho hD5 H9 zx5 fx5 cx5 u0 u1 nb0 nb1
  generalize usedJ co i ds=du at*
  have hnx:=hI.next
  obtain ⟨x0,x1⟩:=hnx
  have hev2:du.events.length+3≤4398046511104:=by have:=lv.out;omega
  replace hev2:=zH hev2
  replace ho2:=zH ho2
  have hjl:i < du.jobs.length:=hI.lt
  have hM:=midJ_ok (now:=now+co) (cost:=co) (a:=a) hI
  obtain ⟨T6,hA6,br6,bk6,bx6⟩:=hD6.blocks
  obtain ⟨cr6,fr6,zr6⟩:=blk br6
  obtain ⟨ck6,fk6,zk6⟩:=blk bk6
  obtain ⟨cx6,fx6,zx6⟩:=blk bx6
  go_cut [] from 80 (fun wx=>DoM gr gk G F B w c S m (some ⟨gj,0,none⟩) (spendK k a) Ak nk ac Al nl to_ a (midJ c m (now+co) a co du) (now+co) wx)
  case first=>
   cases hrf:refusedA c m a with
   |true=>
    have e2:=zH (show midJ c m (now+co) a co du=tellOf du (now+co) 12 (du.next - 1) 0 by unfold midJ;rw [hrf];rfl)
    have HT:=zH (fun W3 (hb:Below W6.heap.size W6 W3) t kd x y=>(hD6.ext hb).tell t kd x y (by have:=hev2.out;omega))
    clear hD6 br6 bk6 bx6 cx6 fx6 zx6
    go_upto_region 10 with (fail)
    (refine wp_region_still_tail 17 (by kernel_rfl) (by kernel_rfl) ?_;simp only [List.take_succ_cons,List.take_zero,List.drop_succ_cons,List.drop_zero];(iterate 17 (with_reducible refine wpStill_step (fun K hK=>?_);replace hK:=zH hK;go_simp;with_reducible refine hK.out _ ?_;clear hK K));refine wpStill_nil ?_)
    go_wp2_with fail
    go_at_call 82
    refine (HT.out _ byB _ _ _ _).mono ?_
    rintro e w1 ⟨rfl,hD7⟩
    replace hD7:=zH hD7
    go_wp2_with fail
    go_meet
    rw [e2.out]
    exact hD7.out
   |false=>
    have e2:=zH (show midJ c m (now+co) a co du=happenA c (now+co) a co du by unfold midJ;rw [hrf];rfl)
    have HT:=zH (fun W3 (hb:Below W6.heap.size W6 W3)=>(hD6.ext hb).happen hc hI ha co hrf (by omega) (by have:=hev2.out;omega) ho2.out)
    clear hD6 br6 bk6 bx6 cr6 fr6 zr6 ck6 fk6 zk6
    go_wp2_with fail
    go_at_call 88
    refine (HT.out _ byB).mono ?_
    rintro e w1 ⟨rfl,hD7⟩
    replace hD7:=zH hD7
    go_wp2_with fail
    go_meet
    rw [e2.out]
    exact hD7.out
  case rest=>
   obtain ⟨W7,rfl⟩:∃X,X=wc:=⟨_,rfl⟩
   have hev7:(midJ c m (now+co) a co du).events.length≤du.events.length+1:=by
    unfold midJ
    split
    ·simp [tellOf]
    ·unfold happenA
     repeat' split
     all_goals simp [tellOf]
   have hev8:(midJ c m (now+co) a co du).events.length+1≤4398046511104:=by have:=hev2.out;omega
   replace hev8:=zH hev8
   clear hev7 hev2 ho2 hD6 br6 bk6 bx6 cr6 fr6 zr6 ck6 fk6 zk6 cx6 fx6 zx6 hA6 hI
   generalize midJ c m (now+co) a co du=dm at*
   have hjl7:=hM.lt
   have hjo:=hM.jobi.1
   have htk:=hjo.task
   dsimp only at htk
   obtain ⟨tn,htn⟩:=Int.eq_ofNat_of_zero_le htk.1
   have htl:tn < c.tasks.length:=by omega
   obtain ⟨T7,hA7,br7,bk7,bx7⟩:=hcut.blocks
   obtain ⟨hg7,_,_,hjc7,hjf7,_⟩:=hcut.setJob hjl7
   have hcfg:TCfg.At (Low B) W7 c S∧B≤W7.heap.size:=by obtain ⟨G',T',h⟩:=hcut;exact ⟨h.2.1.kp.cfg,h.2.1.hB⟩
   have p0:W7.cell? ⟨gj,i*6,none⟩=some (.int .i64 (nth dm.jobs i).task):=hjc7 0 _ rfl
   have p1:W7.cell? ⟨gj,i*6+1,none⟩=some (.int .i64 (nth dm.jobs i).number):=hjc7 1 _ rfl
   have p3:W7.cell? ⟨gj,i*6+3,none⟩=some (.int .i64 (nth dm.jobs i).used):=hjc7 3 _ rfl
   rw [htn] at p0
   obtain ⟨bt,ot,et,hIt,y0,y1,y2,y3⟩:=hcfg.1.s3.at_task htl
   have hIt:bt < B:=hIt
   have hbt:bt < W7.heap.size:=Nat.lt_of_lt_of_le hIt hcfg.2
   rw [et] at bk7
   obtain ⟨cr7,fr7,zr7⟩:=blk br7
   obtain ⟨ck7,fk7,zk7⟩:=blk bk7
   obtain ⟨cx7,fx7,zx7⟩:=blk bx7
   have t0:(0:Int)≤tn:=by omega
   have t1:(tn:Int) < c.tasks.length:=by omega
   have hov:overA c a (nth dm.jobs i)=if a.kind=8 then 4 else if (nth c.tasks tn).budget≤(nth dm.jobs i).used then 5 else 0:=by unfold overA taskOf;rw [htn];rfl
   have hD7:=zH hcut
   clear hcut hjc7 hcfg et br7 bk7 bx7 hA7 htk htn
   go_upto_region 12 with (fail)
   iterate 8 (first|go_values|go_skip|go_guarded|go_step|go_upon|go_back)
   go_cut [8] from 103 (fun v wx=>v= .int .i64 (overA c a (nth dm.jobs i))∧Below W7.heap.size W7 wx)
   case first=>
    by_cases k8:a.kind=8
    ·have b8:(a.kind==8)=true:=by simp [k8]
     rw [if_pos k8] at hov
     replace hov:=zH hov
     clear k8
     go_wp2_with fail
     go_meet
     rw [hov.out]
     exact ⟨rfl,byB⟩
    ·have b8:(a.kind==8)=false:=by simp [k8]
     rw [if_neg k8] at hov
     clear k8
     by_cases hb:(nth c.tasks tn).budget≤(nth dm.jobs i).used
     ·have bb:decide ((nth dm.jobs i).used≥(nth c.tasks tn).budget)=true:=by simpa using hb
      rw [if_pos hb] at hov
      replace hov:=zH hov
      clear hb
      go_wp2_with fail
      go_quiet (fail)
      go_wp2_with fail
      go_meet
      rw [hov.out]
      exact ⟨rfl,byB⟩
     ·have bb:decide ((nth dm.jobs i).used≥(nth c.tasks tn).budget)=false:=by simpa using hb
      rw [if_neg hb] at hov
      replace hov:=zH hov
      clear hb
      go_wp2_with fail
      go_quiet (fail)
      go_wp2_with fail
      go_meet
      rw [hov.out]
      exact ⟨rfl,byB⟩
   case rest=>
    obtain ⟨rfl,hb8⟩:=hcut
    have hD8:=hD7.out.ext hb8
    obtain ⟨W8,rfl⟩:∃X,X=wc:=⟨_,rfl⟩
    clear hD7 cr7 fr7 zr7 ck7 fk7 zk7 cx7 fx7 zx7 p0 p1 p3 hjf7 hg7
    obtain ⟨T8,hA8,br8,bk8,bx8⟩:=hD8.blocks
    obtain ⟨hg8,_,_,hjc8,hjf8,_⟩:=hD8.setJob hjl7
    have p0:W8.cell? ⟨gj,i*6,none⟩=some (.int .i64 (nth dm.jobs i).task):=hjc8 0 _ rfl
    have p1:W8.cell? ⟨gj,i*6+1,none⟩=some (.int .i64 (nth dm.jobs i).number):=hjc8 1 _ rfl
    obtain ⟨cr8,fr8,zr8⟩:=blk br8
    clear hov
    by_cases hpos:overA c a (nth dm.jobs i) > 0
    ·have hXe:Hid (X= {tellOf dm (now+co) (overA c a (nth dm.jobs i)) (nth dm.jobs i).task (nth dm.jobs i).number with jobs:=dm.jobs.eraseIdx i}):=by have h1:=hX.out;unfold endJ at h1;rw [if_pos hpos] at h1;exact h1
     have HT:=zH (fun W3 (hb:Below W8.heap.size W8 W3) t kd x y=>(hD8.ext hb).tell t kd x y hev8.out)
     have b9:decide (overA c a (nth dm.jobs i) > 0)=true:=by simpa using hpos
     clear hD8 br8 bk8 bx8 hA8 hjc8 hX hpos
     generalize overA c a (nth dm.jobs i)=ov at*
     go_upto_region 18 with (fail)
     (refine wp_region_still_tail 17 (by kernel_rfl) (by kernel_rfl) ?_;simp only [List.take_succ_cons,List.take_zero,List.drop_succ_cons,List.drop_zero];(iterate 17 (with_reducible refine wpStill_step (fun K hK=>?_);replace hK:=zH hK;go_simp;with_reducible refine hK.out _ ?_;clear hK K));refine wpStill_nil ?_)
     go_wp2_with fail
     go_at_call 82
     refine (HT.out _ byB _ _ _ _).mono ?_
     rintro e W9 ⟨rfl,hD9⟩
     clear HT cr8 fr8 zr8 p0 p1
     obtain ⟨G9,T9,hA9,hR9,hE9,hx9,z1,z2,z3,z4⟩:=hD9
     have hjl9:i < (tellOf dm (now+co) ov (nth dm.jobs i).task (nth dm.jobs i).number).jobs.length:=hjl7
     obtain ⟨g9,e9,hG9,hg9,hn9r,hn9k,_⟩:=hR9.job hjl9
     obtain rfl:gj=g9:=by rw [hA9] at e9;injection e9 with e9;injection e9
     have hown:=(ozl_flat.1 hR9.kp.dom.o0).1
     rw [hA9] at hown
     have hkk:=hR9.kp.blk
     rw [hA9] at hkk
     have hrr:=hR9.blk
     have z9:=(blk hrr).2.2
     have y9:=(blk hkk).2.2
     have hnj:dm.jobs.length≤20:=hM.njobs
     have hwi:IntKind.i64.wrap ((i:Int)+1)=(i:Int)+1:=IntWalk.i64_in _ (by omega)
     replace hwi:=zH hwi
     have KR:=zH (fun W (hS:KeepN W9 (fun b=>b=gj) W)=>(hS.1 gr z9 (Ne.symm hn9r)).trans hrr)
     have KK:=zH (fun W (hS:KeepN W9 (fun b=>b=gj) W)=>(hS.1 gk y9 (Ne.symm hn9k)).trans hkk)
     have HD:=zH (fun W (hS:Below W9.heap.size W9 W)=>jobDelete (js:=dm.jobs) (n:=dm.jobs.length) rfl (ownZ_keep hown fun b hb=>hS.block b (ownZ_lt hown b hb)) hjl7)
     have hR:=zH (fun W (hK:KeepN W9 (fun b=>b=gj) W) ho=>hR9.gone hjl9 hA9 hK ho)
     have hE:=zH hE9
     have hA:=zH hA9
     clear hown hkk hrr hR9 hE9 hA9 e9 hx9 z3 z4
     go_upto_region 19 with (fail)
     refine wp_region_invT 16 [148,149,150,151,152,153,154,155,156,157,158,159,160,161,162,163] (fun l f W=>(l.size=20∧KeepN W9 (fun b=>b=gj) W∧(Lst l 15∨Below W9.heap.size W9 W))∧Fa l 0 (f 148= .pointer (some ⟨gr,0,none⟩))∧Fa l 1 (f 149= .pointer (some ⟨gr,0,none⟩))∧Fa l 2 (f 150= .pointer (some ⟨gr,0,none⟩))∧Fa l 3 (f 151= .pointer (some ⟨gk,0,none⟩))∧Fa l 4 (f 152= .pointer (some ⟨gr,0,none⟩))∧Fa l 5 (f 153= .pointer (some ⟨gr,0,none⟩))∧Fa l 6 (f 154= .pointer (some ⟨gr,0,none⟩))∧Fa l 7 (f 155= .pointer (some ⟨gk,0,none⟩))∧Fa l 8 (f 156= .pointer (some ⟨gk,0,none⟩))∧Fa l 9 (f 157= .pointer (some ⟨gk,10,none⟩))∧Fa l 10 (f 158= .pointer (some ⟨gk,10,none⟩))∧Fa l 11 (f 159= .slice (some ⟨gj,0,none⟩) dm.jobs.length T9.n0)∧Fa l 12 (f 160= .int .i64 i)∧Fa l 13 (f 161= .int .i64 i)∧Fa l 14 (f 162= .int .i64 (i+1))∧Fa l 15 ((f 163= .slice (some ⟨gj,0,none⟩) (dm.jobs.length - 1) T9.n0)∧ownsZ W 74 6 (.slice (some ⟨gj,0,none⟩) (dm.jobs.length - 1) T9.n0) (dm.jobs.length - 1) ((dm.jobs.eraseIdx i).flatMap TJob.cells))) (by kernel_rfl) (by decide) (by kernel_rfl) (by kernel_rfl) (by intro s hs;simp at hs⊢;omega) ?_ ?_ ?_
     ·intro l hz hl
      exact ⟨⟨hz,⟨fun _ _ _=>rfl,Nat.le_refl _,(Below.refl _ _).drew⟩,.inr (Below.refl _ _).drew⟩,.no (hl 0),.no (hl 1),.no (hl 2),.no (hl 3),.no (hl 4),.no (hl 5),.no (hl 6),.no (hl 7),.no (hl 8),.no (hl 9),.no (hl 10),.no (hl 11),.no (hl 12),.no (hl 13),.no (hl 14),.no (hl 15)⟩
     ·simp only [List.take_succ_cons,List.take_zero]
      refine StepsL.c 1 [] (fun l f W hR hn hb K Q2 hK=>?_) ?_
      ·obtain ⟨hS,h0,h1,h2,h3,h4,h5,h6,h7,h8,h9,h10,h11,h12,h13,h14,h15⟩:=hR
       obtain ⟨hz,hS,hO⟩:=hS
       clear hb
       refine ⟨?_⟩
       simp only [pfs] at hK⊢
       go_simp
       exact hK.out _ _ byK
      refine StepsL.c 2 [0] (fun l f W hR hn hb K Q2 hK=>?_) ?_
      ·obtain ⟨hS,h0,h1,h2,h3,h4,h5,h6,h7,h8,h9,h10,h11,h12,h13,h14,h15⟩:=hR
       have q0:=h0.out (hb 0 (by simp))
       obtain ⟨hz,hS,hO⟩:=hS
       clear hb
       refine ⟨?_⟩
       simp only [pfs] at hK⊢
       (try simp only [q0] at hK)
       go_simp
       exact hK.out _ _ byK
      refine StepsL.c 3 [1] (fun l f W hR hn hb K Q2 hK=>?_) ?_
      ·obtain ⟨hS,h0,h1,h2,h3,h4,h5,h6,h7,h8,h9,h10,h11,h12,h13,h14,h15⟩:=hR
       have q1:=h1.out (hb 1 (by simp))
       obtain ⟨hz,hS,hO⟩:=hS
       clear hb
       refine ⟨?_⟩
       simp only [pfs] at hK⊢
       (try simp only [q1] at hK)
       go_simp
       exact hK.out _ _ byK
      refine StepsL.c 4 [2] (fun l f W hR hn hb K Q2 hK=>?_) ?_
      ·obtain ⟨hS,h0,h1,h2,h3,h4,h5,h6,h7,h8,h9,h10,h11,h12,h13,h14,h15⟩:=hR
       have q2:=h2.out (hb 2 (by simp))
       obtain ⟨hz,hS,hO⟩:=hS
       clear hb
       refine ⟨?_⟩
       simp only [pfs] at hK⊢
       (try simp only [q2] at hK)
       obtain ⟨cX,fX,zX⟩:=blk (KR.out W hS)
       go_simp
       exact hK.out _ _ byK
      refine StepsL.c 5 [] (fun l f W hR hn hb K Q2 hK=>?_) ?_
      ·obtain ⟨hS,h0,h1,h2,h3,h4,h5,h6,h7,h8,h9,h10,h11,h12,h13,h14,h15⟩:=hR
       obtain ⟨hz,hS,hO⟩:=hS
       clear hb
       refine ⟨?_⟩
       simp only [pfs] at hK⊢
       go_simp
       exact hK.out _ _ byK
      refine StepsL.c 6 [4] (fun l f W hR hn hb K Q2 hK=>?_) ?_
      ·obtain ⟨hS,h0,h1,h2,h3,h4,h5,h6,h7,h8,h9,h10,h11,h12,h13,h14,h15⟩:=hR
       have q4:=h4.out (hb 4 (by simp))
       obtain ⟨hz,hS,hO⟩:=hS
       clear hb
       refine ⟨?_⟩
       simp only [pfs] at hK⊢
       (try simp only [q4] at hK)
       go_simp
       exact hK.out _ _ byK
      refine StepsL.c 7 [5] (fun l f W hR hn hb K Q2 hK=>?_) ?_
      ·obtain ⟨hS,h0,h1,h2,h3,h4,h5,h6,h7,h8,h9,h10,h11,h12,h13,h14,h15⟩:=hR
       have q5:=h5.out (hb 5 (by simp))
       obtain ⟨hz,hS,hO⟩:=hS
       clear hb
       refine ⟨?_⟩
       simp only [pfs] at hK⊢
       (try simp only [q5] at hK)
       go_simp
       exact hK.out _ _ byK
      refine StepsL.c 8 [6] (fun l f W hR hn hb K Q2 hK=>?_) ?_
      ·obtain ⟨hS,h0,h1,h2,h3,h4,h5,h6,h7,h8,h9,h10,h11,h12,h13,h14,h15⟩:=hR
       have q6:=h6.out (hb 6 (by simp))
       obtain ⟨hz,hS,hO⟩:=hS
       clear hb
       refine ⟨?_⟩
       simp only [pfs] at hK⊢
       (try simp only [q6] at hK)
       obtain ⟨cX,fX,zX⟩:=blk (KR.out W hS)
       go_simp
       exact hK.out _ _ byK
      refine StepsL.c 9 [7] (fun l f W hR hn hb K Q2 hK=>?_) ?_
      ·obtain ⟨hS,h0,h1,h2,h3,h4,h5,h6,h7,h8,h9,h10,h11,h12,h13,h14,h15⟩:=hR
       have q7:=h7.out (hb 7 (by simp))
       obtain ⟨hz,hS,hO⟩:=hS
       clear hb
       refine ⟨?_⟩
       simp only [pfs] at hK⊢
       (try simp only [q7] at hK)
       go_simp
       exact hK.out _ _ byK
      refine StepsL.c 10 [8] (fun l f W hR hn hb K Q2 hK=>?_) ?_
      ·obtain ⟨hS,h0,h1,h2,h3,h4,h5,h6,h7,h8,h9,h10,h11,h12,h13,h14,h15⟩:=hR
       have q8:=h8.out (hb 8 (by simp))
       obtain ⟨hz,hS,hO⟩:=hS
       clear hb
       refine ⟨?_⟩
       simp only [pfs] at hK⊢
       (try simp only [q8] at hK)
       go_simp
       exact hK.out _ _ byK
      refine StepsL.c 11 [9] (fun l f W hR hn hb K Q2 hK=>?_) ?_
      ·obtain ⟨hS,h0,h1,h2,h3,h4,h5,h6,h7,h8,h9,h10,h11,h12,h13,h14,h15⟩:=hR
       have q9:=h9.out (hb 9 (by simp))
       obtain ⟨hz,hS,hO⟩:=hS
       clear hb
       refine ⟨?_⟩
       simp only [pfs] at hK⊢
       (try simp only [q9] at hK)
       go_simp
       exact hK.out _ _ byK
      refine StepsL.c 12 [10] (fun l f W hR hn hb K Q2 hK=>?_) ?_
      ·obtain ⟨hS,h0,h1,h2,h3,h4,h5,h6,h7,h8,h9,h10,h11,h12,h13,h14,h15⟩:=hR
       have q10:=h10.out (hb 10 (by simp))
       obtain ⟨hz,hS,hO⟩:=hS
       clear hb
       refine ⟨?_⟩
       simp only [pfs] at hK⊢
       (try simp only [q10] at hK)
       obtain ⟨cX,fX,zX⟩:=blk (KK.out W hS)
       go_simp
       exact hK.out _ _ byK
      refine StepsL.c 13 [] (fun l f W hR hn hb K Q2 hK=>?_) ?_
      ·obtain ⟨hS,h0,h1,h2,h3,h4,h5,h6,h7,h8,h9,h10,h11,h12,h13,h14,h15⟩:=hR
       obtain ⟨hz,hS,hO⟩:=hS
       clear hb
       refine ⟨?_⟩
       simp only [pfs] at hK⊢
       go_simp
       exact hK.out _ _ byK
      refine StepsL.c 14 [] (fun l f W hR hn hb K Q2 hK=>?_) ?_
      ·obtain ⟨hS,h0,h1,h2,h3,h4,h5,h6,h7,h8,h9,h10,h11,h12,h13,h14,h15⟩:=hR
       obtain ⟨hz,hS,hO⟩:=hS
       clear hb
       refine ⟨?_⟩
       simp only [pfs] at hK⊢
       go_simp
       exact hK.out _ _ byK
      refine StepsL.c 15 [13] (fun l f W hR hn hb K Q2 hK=>?_) ?_
      ·obtain ⟨hS,h0,h1,h2,h3,h4,h5,h6,h7,h8,h9,h10,h11,h12,h13,h14,h15⟩:=hR
       have q13:=h13.out (hb 13 (by simp))
       obtain ⟨hz,hS,hO⟩:=hS
       clear hb
       refine ⟨?_⟩
       simp only [pfs] at hK⊢
       (try simp only [q13] at hK)
       go_simp
       refine hK.out _ _ ⟨⟨by simpa using hz,hS,hO.imp Lst.fwd id⟩,h0.k,h1.k,h2.k,h3.k,h4.k,h5.k,h6.k,h7.k,h8.k,h9.k,h10.k,h11.k,h12.k,h13.k,⟨fun _=>congrArg (Value.int .i64) hwi.out⟩,h15.k⟩
      refine StepsL.c 16 [11,12,14] (fun l f W hR hn hb K Q2 hK=>?_) ?_
      ·obtain ⟨hS,h0,h1,h2,h3,h4,h5,h6,h7,h8,h9,h10,h11,h12,h13,h14,h15⟩:=hR
       have q11:=h11.out (hb 11 (by simp))
       have q12:=h12.out (hb 12 (by simp))
       have q14:=h14.out (hb 14 (by simp))
       obtain ⟨hz,hS,hO⟩:=hS
       have hOld:=hO.resolve_left hn
       clear hb
       refine ⟨?_⟩
       simp only [pfs] at hK⊢
       (try simp only [q11,q12,q14] at hK)
       have HC:=HD.out W hOld
       go_simp
       go_at_call 89
       refine HC.mono ?_
       clear HC
       rintro e w3 ⟨rfl,own3,sz3,kp3,bl3⟩
       try dsimp only
       try simp only [Act.put,List.setIfInBounds_toArray,List.set_cons_zero,List.set_cons_succ]
       refine hK.out _ _ ⟨⟨by simpa using hz,⟨fun b hb hnn=>(kp3 b hnn).trans (hS.1 b hb hnn),by rw [sz3];exact hS.2.1,hS.2.2.trans (bl3 0 (Nat.zero_le _))⟩,.inl (Lst.self (by rw [hz];omega))⟩,h0.k,h1.k,h2.k,h3.k,h4.k,h5.k,h6.k,h7.k,h8.k,h9.k,h10.k,h11.k,h12.k,h13.k,h14.k,⟨fun _=>⟨rfl,own3⟩⟩⟩
      exact StepsL.nil
     ·intro l f W hR hall
      obtain ⟨hS,h0,h1,h2,h3,h4,h5,h6,h7,h8,h9,h10,h11,h12,h13,h14,h15⟩:=hR
      have q0:=h0.out (hall 0 (by decide))
      have q1:=h1.out (hall 1 (by decide))
      have q2:=h2.out (hall 2 (by decide))
      have q3:=h3.out (hall 3 (by decide))
      have q4:=h4.out (hall 4 (by decide))
      have q5:=h5.out (hall 5 (by decide))
      have q6:=h6.out (hall 6 (by decide))
      have q7:=h7.out (hall 7 (by decide))
      have q8:=h8.out (hall 8 (by decide))
      have q9:=h9.out (hall 9 (by decide))
      have q10:=h10.out (hall 10 (by decide))
      have q11:=h11.out (hall 11 (by decide))
      have q12:=h12.out (hall 12 (by decide))
      have q13:=h13.out (hall 13 (by decide))
      have q14:=h14.out (hall 14 (by decide))
      have q15:=h15.out (hall 15 (by decide))
      clear h0 h1 h2 h3 h4 h5 h6 h7 h8 h9 h10 h11 h12 h13 h14 h15
      simp only [List.drop_succ_cons,List.drop_zero]
      obtain ⟨hz,hS,_⟩:=hS
      obtain ⟨e15,own15⟩:=q15
      simp only [pfs]
      simp only [q3,e15]
      clear q0 q1 q2 q3 q4 q5 q6 q7 q8 q9 q10 q11 q12 q13 q14 e15 hall
      have hfin:=zH (hR.out W hS own15)
      obtain ⟨ckW,fkW,zkW⟩:=blk (KK.out W hS)
      clear hR own15 KR KK HD hS
      go_wp2_with fail
      refine bodyPost_end (v:= .tuple #[]) (by simp [results,Tryd.results73,go_sem, *]) rfl ?_
      rw [hXe.out,← hco.out]
      exact ⟨rfl,G9,T9,hA.out,hfin.out.1,hE.out.trans hfin.out.2⟩
    ·have hXe:Hid (X=dm):=by have h1:=hX.out;unfold endJ at h1;rw [if_neg hpos] at h1;exact h1
     have b9:decide (overA c a (nth dm.jobs i) > 0)=false:=by simpa using hpos
     replace hD8:=zH hD8
     clear br8 bk8 bx8 hA8 hjc8 hX hpos
     generalize overA c a (nth dm.jobs i)=ov at*
     go_wp2_with fail
     refine bodyPost_end (v:= .tuple #[]) (by simp [results,Tryd.results73,go_sem, *]) rfl ?_
     rw [hXe.out,← hco.out]
     obtain ⟨G',T',h⟩:=hD8.out
     exact ⟨rfl,G',T',h.1,h.2.1,h.2.2.1⟩
end
end Go.Proofs.YtinlmkhlgclbfabDoor
