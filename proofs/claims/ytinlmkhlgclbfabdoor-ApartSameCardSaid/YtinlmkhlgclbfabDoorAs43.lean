/- OnlyC -/
import Derived.Test.YtinlmkhlgclbfabDoorAs42
namespace Go.Proofs.YtinlmkhlgclbfabDoor
open Go.RowKit
set_option maxRecDepth 1000000
set_option maxHeartbeats 4000000
theorem apartReady (c:TCfg)(S:TCfgS)(sc:TScr)(Z:TScrS)(d:Int)(B:Nat)(w:World)(hB:B≤w.heap.size)(hs:TCfg.At (Low B) w c S)(hz:TScr.At (Low B) w sc Z):
  Calls Tryd.prog 20 #[.agg #[.int .i64 c.sets,.int .i64 c.ways,.int .i64 c.doms,.int .i64 c.pad,.int .i64 c.quantum,.slice S.a0 c.slots.length S.n0,.slice S.a1 c.owners.length S.n1,.slice S.a2 c.chans.length S.n2,.slice S.a3 c.tasks.length S.n3],.agg #[.slice Z.a0 sc.actions.length Z.n0,.slice Z.a1 sc.arrivals.length Z.n1,.int .i64 sc.rounds],.int .i64 d] w fun e w'=>e= .returned (.int .i64 (readyErr c sc d))∧Below w.heap.size w w':=by
 have H1:=zH (fun W (h:Below w.heap.size w W)=>execCheck c S sc Z B W (Nat.le_trans hB h.size) (hs.next hB h) (hz.next hB h))
 by_cases e1:checkScript c sc=0
 ·have hc:=(checkScript_ok e1).cfg.doms
  have H2:=zH (fun W=>configIsDomain c S d hc.1 hc.2 W)
  have R:readyErr c sc d=if isDom c.doms d=true then 0 else 5:=by unfold readyErr;rw [if_neg (by simp [e1])]
  rw [R]
  rw [e1] at H1
  clear R e1 hc hs hz
  cases e2:isDom c.doms d with
  |false=>
   rw [e2] at H2
   clear e2
   go_enter Tryd.func20,Tryd.ntmps20
   go_wp2_with fail
   (go_at_call 16;refine (H1.out _ byB).mono ?_;rintro e w1 ⟨rfl,hb_w1⟩;refine kbb (show w1.heap[w.heap.size]?=some (.cells #[.int .i64 c.sets,.int .i64 c.ways,.int .i64 c.doms,.int .i64 c.pad,.int .i64 c.quantum,.slice S.a0 c.slots.length S.n0,.slice S.a1 c.owners.length S.n1,.slice S.a2 c.chans.length S.n2,.slice S.a3 c.tasks.length S.n3] 27) from (hb_w1.block _ byS).trans byH) (fun c_w1 cc_w1 fc_w1 zc_w1=>?_);refine kbb (show w1.heap[w.heap.size+1]?=some (.cells #[.slice Z.a0 sc.actions.length Z.n0,.slice Z.a1 sc.arrivals.length Z.n1,.int .i64 sc.rounds] 31) from (hb_w1.block _ byS).trans byH) (fun z_w1 cz_w1 fz_w1 zz_w1=>?_);refine armT w hb_w1 (fun h_w1 s_w1 t_w1 hb_w1=>?_);(try simp at t_w1))
   go_wp2_with fail
   (go_at_call 25;refine (H2.out _).mono ?_;rintro e w2 ⟨rfl,hb_w2⟩;refine kbb (kb c_w1 hb_w2) (fun c_w2 cc_w2 fc_w2 zc_w2=>?_);refine kbb (kb z_w1 hb_w2) (fun z_w2 cz_w2 fz_w2 zz_w2=>?_);refine armT w hb_w2 (fun h_w2 s_w2 t_w2 hb_w2=>?_);(try simp at t_w2);clear c_w1 cc_w1 fc_w1 z_w1 cz_w1 fz_w1)
   go_wp2_with fail
   go_ret
   exact ⟨rfl,h_w2⟩
  |true=>
   rw [e2] at H2
   clear e2
   go_enter Tryd.func20,Tryd.ntmps20
   go_wp2_with fail
   (go_at_call 16;refine (H1.out _ byB).mono ?_;rintro e w1 ⟨rfl,hb_w1⟩;refine kbb (show w1.heap[w.heap.size]?=some (.cells #[.int .i64 c.sets,.int .i64 c.ways,.int .i64 c.doms,.int .i64 c.pad,.int .i64 c.quantum,.slice S.a0 c.slots.length S.n0,.slice S.a1 c.owners.length S.n1,.slice S.a2 c.chans.length S.n2,.slice S.a3 c.tasks.length S.n3] 27) from (hb_w1.block _ byS).trans byH) (fun c_w1 cc_w1 fc_w1 zc_w1=>?_);refine kbb (show w1.heap[w.heap.size+1]?=some (.cells #[.slice Z.a0 sc.actions.length Z.n0,.slice Z.a1 sc.arrivals.length Z.n1,.int .i64 sc.rounds] 31) from (hb_w1.block _ byS).trans byH) (fun z_w1 cz_w1 fz_w1 zz_w1=>?_);refine armT w hb_w1 (fun h_w1 s_w1 t_w1 hb_w1=>?_);(try simp at t_w1))
   go_wp2_with fail
   (go_at_call 25;refine (H2.out _).mono ?_;rintro e w2 ⟨rfl,hb_w2⟩;refine kbb (kb c_w1 hb_w2) (fun c_w2 cc_w2 fc_w2 zc_w2=>?_);refine kbb (kb z_w1 hb_w2) (fun z_w2 cz_w2 fz_w2 zz_w2=>?_);refine armT w hb_w2 (fun h_w2 s_w2 t_w2 hb_w2=>?_);(try simp at t_w2);clear c_w1 cc_w1 fc_w1 z_w1 cz_w1 fz_w1)
   go_wp2_with fail
   go_ret
   exact ⟨rfl,h_w2⟩
 ·have R:readyErr c sc d=checkScript c sc:=by unfold readyErr;rw [if_pos e1]
  rw [R]
  have b1:(checkScript c sc !=0)=true:=by simp [e1]
  clear R e1
  generalize checkScript c sc=CE at*
  go_enter Tryd.func20,Tryd.ntmps20
  go_wp2_with fail
  (go_at_call 16;refine (H1.out _ byB).mono ?_;rintro e w1 ⟨rfl,hb_w1⟩;refine kbb (show w1.heap[w.heap.size]?=some (.cells #[.int .i64 c.sets,.int .i64 c.ways,.int .i64 c.doms,.int .i64 c.pad,.int .i64 c.quantum,.slice S.a0 c.slots.length S.n0,.slice S.a1 c.owners.length S.n1,.slice S.a2 c.chans.length S.n2,.slice S.a3 c.tasks.length S.n3] 27) from (hb_w1.block _ byS).trans byH) (fun c_w1 cc_w1 fc_w1 zc_w1=>?_);refine kbb (show w1.heap[w.heap.size+1]?=some (.cells #[.slice Z.a0 sc.actions.length Z.n0,.slice Z.a1 sc.arrivals.length Z.n1,.int .i64 sc.rounds] 31) from (hb_w1.block _ byS).trans byH) (fun z_w1 cz_w1 fz_w1 zz_w1=>?_);refine armT w hb_w1 (fun h_w1 s_w1 t_w1 hb_w1=>?_);(try simp at t_w1))
  go_wp2_with fail
  go_ret
  exact ⟨rfl,h_w1⟩
def noScr:TScr:=⟨[],[],0⟩
def onlyRes (c:TCfg) (sc:TScr) (d:Int):TScr:=if readyErr c sc d=0 then onlyOf c sc d.toNat else noScr
def RetScrE (sc:TScr) (err:Int) (w:World) (e:Ending) (w':World):Prop:=∃Z,e= .returned (.tuple #[.agg #[.slice Z.a0 sc.actions.length Z.n0,.slice Z.a1 sc.arrivals.length Z.n1,.int .i64 sc.rounds],.int .i64 err])∧TScr.At (Rng w.heap.size w'.heap.size) w' sc Z∧Below w.heap.size w w'
theorem scr_set {w:World}{g:Nat}{t:TypeId}{fr:Nat×Nat}{v0 v1 v2 u0 u1 u2:Value}(h:w.heap[g]?=some (.cells #[v0,v1,v2] t fr)):(((w.setCell ⟨g,0,none⟩ u0).setCell ⟨g,1,none⟩ u1).setCell ⟨g,2,none⟩ u2).heap[g]?=some (.cells #[u0,u1,u2] t fr):=by
 have:=heap_set_same (i:=2) (u:=u2) (heap_set_same (i:=1) (u:=u1) (heap_set_same (i:=0) (u:=u0) h))
 simpa using this
theorem scr_far {w:World}{g b:Nat}{u0 u1 u2:Value}(hb:b≠g):(((w.setCell ⟨g,0,none⟩ u0).setCell ⟨g,1,none⟩ u1).setCell ⟨g,2,none⟩ u2).heap[b]?=w.heap[b]?:=(Below.heap_setCell _ _ _ _ hb).trans ((Below.heap_setCell _ _ _ _ hb).trans (Below.heap_setCell _ _ _ _ hb))
theorem scr_below {B g:Nat}{w0 w:World}{u0 u1 u2:Value}(h:Below B w0 w)(hg:B≤g):Below B w0 (((w.setCell ⟨g,0,none⟩ u0).setCell ⟨g,1,none⟩ u1).setCell ⟨g,2,none⟩ u2):=((h.setCell hg _).setCell hg _).setCell hg _
theorem apartOnly (c:TCfg)(S:TCfgS)(sc:TScr)(Z:TScrS)(d:Int)(B:Nat)(w:World)(hB:B≤w.heap.size)(hs:TCfg.At (Low B) w c S)(hz:TScr.At (Low B) w sc Z):
  Calls Tryd.prog 13 #[.agg #[.int .i64 c.sets,.int .i64 c.ways,.int .i64 c.doms,.int .i64 c.pad,.int .i64 c.quantum,.slice S.a0 c.slots.length S.n0,.slice S.a1 c.owners.length S.n1,.slice S.a2 c.chans.length S.n2,.slice S.a3 c.tasks.length S.n3],.agg #[.slice Z.a0 sc.actions.length Z.n0,.slice Z.a1 sc.arrivals.length Z.n1,.int .i64 sc.rounds],.int .i64 d] w (RetScrE (onlyRes c sc d) (readyErr c sc d) w):=by
 have H1:=zH (fun W (h:Below w.heap.size w W)=>apartReady c S sc Z d B W (Nat.le_trans hB h.size) (hs.next hB h) (hz.next hB h))
 unfold onlyRes
 by_cases e1:readyErr c sc d=0
 ·obtain ⟨hok,hd0,hd1⟩:=readyErr_ok e1
  rw [if_pos e1,e1]
  rw [e1] at H1
  obtain ⟨dn,rfl⟩:=Int.eq_ofNat_of_zero_le hd0
  have H2:=zH (fun W (h:Below w.heap.size w W)=>apartOnly0 c S sc Z hok dn (by omega) B W (Nat.le_trans hB h.size) (hs.next hB h) (hz.next hB h))
  rw [show ((dn:Nat):Int).toNat=dn from rfl]
  clear e1 hd0 hd1 hok hs hz
  go_enter Tryd.func13,Tryd.ntmps13
  go_wp2_with fail
  (go_at_call 20;refine (H1.out _ byB).mono ?_;rintro e w1 ⟨rfl,hb_w1⟩;refine kbb (show w1.heap[w.heap.size]?=some (.cells #[.int .i64 c.sets,.int .i64 c.ways,.int .i64 c.doms,.int .i64 c.pad,.int .i64 c.quantum,.slice S.a0 c.slots.length S.n0,.slice S.a1 c.owners.length S.n1,.slice S.a2 c.chans.length S.n2,.slice S.a3 c.tasks.length S.n3] 27) from (hb_w1.block _ byS).trans byH) (fun c_w1 cc_w1 fc_w1 zc_w1=>?_);refine kbb (show w1.heap[w.heap.size+1]?=some (.cells #[.slice Z.a0 sc.actions.length Z.n0,.slice Z.a1 sc.arrivals.length Z.n1,.int .i64 sc.rounds] 31) from (hb_w1.block _ byS).trans byH) (fun z_w1 cz_w1 fz_w1 zz_w1=>?_);refine kbb (show w1.heap[w.heap.size+2]?=some (.cells #[.slice none 0 0,.slice none 0 0,.int .i64 0] 31) from (hb_w1.block _ byS).trans byH) (fun r_w1 cr_w1 fr_w1 zr_w1=>?_);refine armT w hb_w1 (fun h_w1 s_w1 t_w1 hb_w1=>?_);(try simp at t_w1))
  go_wp2_with fail
  go_at_call 21
  refine (H2.out _ byB).mono ?_
  rintro e w2 ⟨Z2,rfl,hA2,hb2⟩
  have hb02:Below w.heap.size w w2:=byB
  have hz1:=h_w1.size
  have kr:=(hb2.block _ (by omega)).trans r_w1
  obtain ⟨cr,fr,zr⟩:=blk kr
  generalize hO:onlyOf c sc dn=so at*
  clear H1 H2 hO
  go_wp2_with fail
  have e6:=scr_set (u0:= .slice Z2.a0 so.actions.length Z2.n0) (u1:= .slice Z2.a1 so.arrivals.length Z2.n1) (u2:= .int .i64 so.rounds) kr
  obtain ⟨c9,f9,z9⟩:=blk e6
  refine bodyPost_ret (v:= .tuple #[.agg #[.slice Z2.a0 so.actions.length Z2.n0,.slice Z2.a1 so.arrivals.length Z2.n1,.int .i64 so.rounds],.int .i64 0]) (by simp [results,Tryd.results13,go_sem, *]) rfl ?_
  exact ⟨Z2,rfl,(hA2.keep fun b hb=>scr_far (by have:=hb.1;omega)).mono fun b hb=>⟨by have:=hb.1;omega,by have:=hb.2;simp;omega⟩,scr_below hb02 (by omega)⟩
 ·rw [if_neg e1]
  have b1:(readyErr c sc d !=0)=true:=by simp [e1]
  clear e1
  generalize readyErr c sc d=CE at*
  go_enter Tryd.func13,Tryd.ntmps13
  go_wp2_with fail
  (go_at_call 20;refine (H1.out _ byB).mono ?_;rintro e w1 ⟨rfl,hb_w1⟩;refine kbb (show w1.heap[w.heap.size]?=some (.cells #[.int .i64 c.sets,.int .i64 c.ways,.int .i64 c.doms,.int .i64 c.pad,.int .i64 c.quantum,.slice S.a0 c.slots.length S.n0,.slice S.a1 c.owners.length S.n1,.slice S.a2 c.chans.length S.n2,.slice S.a3 c.tasks.length S.n3] 27) from (hb_w1.block _ byS).trans byH) (fun c_w1 cc_w1 fc_w1 zc_w1=>?_);refine kbb (show w1.heap[w.heap.size+1]?=some (.cells #[.slice Z.a0 sc.actions.length Z.n0,.slice Z.a1 sc.arrivals.length Z.n1,.int .i64 sc.rounds] 31) from (hb_w1.block _ byS).trans byH) (fun z_w1 cz_w1 fz_w1 zz_w1=>?_);refine kbb (show w1.heap[w.heap.size+2]?=some (.cells #[.slice none 0 0,.slice none 0 0,.int .i64 0] 31) from (hb_w1.block _ byS).trans byH) (fun r_w1 cr_w1 fr_w1 zr_w1=>?_);refine armT w hb_w1 (fun h_w1 s_w1 t_w1 hb_w1=>?_);(try simp at t_w1))
  go_wp2_with fail
  have e6:=scr_set (u0:= .slice none 0 0) (u1:= .slice none 0 0) (u2:= .int .i64 0) r_w1
  obtain ⟨c9,f9,z9⟩:=blk e6
  refine bodyPost_ret (v:= .tuple #[.agg #[.slice none 0 0,.slice none 0 0,.int .i64 0],.int .i64 CE]) (by simp [results,Tryd.results13,go_sem, *]) rfl ?_
  exact ⟨⟨none,0,none,0⟩,rfl,⟨Sl.empty _ _ _,Sl.empty _ _ _⟩,scr_below h_w1 (by omega)⟩
def RetDomR (d:TDom) (err:Int) (w:World) (e:Ending) (w':World):Prop:=∃T,e= .returned (.tuple #[.agg #[.slice T.a0 d.jobs.length T.n0,.slice T.a1 d.released.length T.n1,.int .i64 d.next,.slice T.a2 d.ins.length T.n2,.slice T.a3 d.taken.length T.n3,.slice T.a4 d.outs.length T.n4,.slice T.a5 d.events.length T.n5],.int .i64 err])∧TDom.At (Rng w.heap.size w'.heap.size) w' d T∧Below w.heap.size w w'
def aloneRes (c:TCfg) (sc:TScr) (d:Int):TDom:=if readyErr c sc d=0 then nth (machOf c (onlyOf c sc d.toNat)).ds d.toNat else noDom
theorem apartAlone (c:TCfg)(S:TCfgS)(sc:TScr)(Z:TScrS)(d:Int)(B:Nat)(w:World)(hB:B≤w.heap.size)(hs:TCfg.At (Low B) w c S)(hz:TScr.At (Low B) w sc Z):
  Calls Tryd.prog 10 #[.agg #[.int .i64 c.sets,.int .i64 c.ways,.int .i64 c.doms,.int .i64 c.pad,.int .i64 c.quantum,.slice S.a0 c.slots.length S.n0,.slice S.a1 c.owners.length S.n1,.slice S.a2 c.chans.length S.n2,.slice S.a3 c.tasks.length S.n3],.agg #[.slice Z.a0 sc.actions.length Z.n0,.slice Z.a1 sc.arrivals.length Z.n1,.int .i64 sc.rounds],.int .i64 d] w (RetDomR (aloneRes c sc d) (readyErr c sc d) w):=by
 have H1:=zH (fun W (h:Below w.heap.size w W)=>apartReady c S sc Z d B W (Nat.le_trans hB h.size) (hs.next hB h) (hz.next hB h))
 unfold aloneRes
 by_cases e1:readyErr c sc d=0
 ·obtain ⟨hok,hd0,hd1⟩:=readyErr_ok e1
  rw [if_pos e1,e1]
  rw [e1] at H1
  obtain ⟨dn,rfl⟩:=Int.eq_ofNat_of_zero_le hd0
  have H2:=zH (fun W (h:Below w.heap.size w W)=>apartOnly0 c S sc Z hok dn (by omega) B W (Nat.le_trans hB h.size) (hs.next hB h) (hz.next hB h))
  rw [show ((dn:Nat):Int).toNat=dn from rfl]
  have hso:=only_ok hok dn
  have hdl:Hid (dn < (machOf c (onlyOf c sc dn)).ds.length):=zH (by have:=machUp_len c (onlyOf c sc dn) hok.cfg (slotsIn c (onlyOf c sc dn));show dn < (machUp c (onlyOf c sc dn) (slotsIn c (onlyOf c sc dn))).ds.length;omega)
  generalize onlyOf c sc dn=so at*
  have H3:=zH (fun W Z9 (h:Below w.heap.size w W) (hZ:TScr.At (Low W.heap.size) W so Z9)=>apartRun0 W.heap.size c S so Z9 hso W (Nat.le_refl _) ((hs.next hB h).up (Nat.le_trans hB h.size)) hZ)
  generalize (machOf c so).ds=ds at*
  have j0:(0:Int)≤(dn:Nat):=hd0
  have j1:((dn:Nat):Int) < ds.length:=by have:=hdl.out;omega
  clear e1 hd0 hd1 hok hso hs hz
  go_enter Tryd.func10,Tryd.ntmps10
  go_wp2_with fail
  (go_at_call 20;refine (H1.out _ byB).mono ?_;rintro e w1 ⟨rfl,hb_w1⟩;refine kbb (show w1.heap[w.heap.size]?=some (.cells #[.int .i64 c.sets,.int .i64 c.ways,.int .i64 c.doms,.int .i64 c.pad,.int .i64 c.quantum,.slice S.a0 c.slots.length S.n0,.slice S.a1 c.owners.length S.n1,.slice S.a2 c.chans.length S.n2,.slice S.a3 c.tasks.length S.n3] 27) from (hb_w1.block _ byS).trans byH) (fun c_w1 cc_w1 fc_w1 zc_w1=>?_);refine kbb (show w1.heap[w.heap.size+1]?=some (.cells #[.slice Z.a0 sc.actions.length Z.n0,.slice Z.a1 sc.arrivals.length Z.n1,.int .i64 sc.rounds] 31) from (hb_w1.block _ byS).trans byH) (fun z_w1 cz_w1 fz_w1 zz_w1=>?_);refine kbb (show w1.heap[w.heap.size+2]?=some (.cells #[.slice none 0 0,.slice none 0 0,.int .i64 0,.slice none 0 0,.slice none 0 0,.slice none 0 0,.slice none 0 0] 46) from (hb_w1.block _ byS).trans byH) (fun r_w1 cr_w1 fr_w1 zr_w1=>?_);refine armT w hb_w1 (fun h_w1 s_w1 t_w1 hb_w1=>?_);(try simp at t_w1))
  go_upto_region 4 with (fail)
  have hw1:=h_w1
  have hz1:=h_w1.size
  have kc_:=c_w1
  have kz_:=z_w1
  have kr_:=r_w1
  have hzz:w.heap.size+2 < w1.heap.size:=(blk kr_).2.2
  clear H1
  clear h_w1
  refine wp_region_invT 9 [17,18,19,20,21,22,23,24,25] (fun l f W=>(Below w1.heap.size w1 W∧l.size=11)∧Fa l 0 (f 17= .agg #[.int .i64 c.sets,.int .i64 c.ways,.int .i64 c.doms,.int .i64 c.pad,.int .i64 c.quantum,.slice S.a0 c.slots.length S.n0,.slice S.a1 c.owners.length S.n1,.slice S.a2 c.chans.length S.n2,.slice S.a3 c.tasks.length S.n3])∧Fa l 1 (f 18= .agg #[.int .i64 c.sets,.int .i64 c.ways,.int .i64 c.doms,.int .i64 c.pad,.int .i64 c.quantum,.slice S.a0 c.slots.length S.n0,.slice S.a1 c.owners.length S.n1,.slice S.a2 c.chans.length S.n2,.slice S.a3 c.tasks.length S.n3])∧Fa l 2 (f 19= .agg #[.slice Z.a0 sc.actions.length Z.n0,.slice Z.a1 sc.arrivals.length Z.n1,.int .i64 sc.rounds])∧Fa l 3 (f 20= .int .i64 (((dn:Nat):Int)))∧Fa l 4 (∃Z9,f 21= .agg #[.slice Z9.a0 so.actions.length Z9.n0,.slice Z9.a1 so.arrivals.length Z9.n1,.int .i64 so.rounds]∧TScr.At (Low W.heap.size) W so Z9)∧Fa l 5 (Lst l 4∧∃A9 n9,f 22= .slice A9 ds.length n9∧Sl cDom (Rng w1.heap.size W.heap.size) W A9 n9 ds)∧Fa l 6 (f 23= .int .i64 (dn:Nat))∧Fa l 7 (Lst l 4∧Lst l 5∧∃b o T9,f 24= .pointer (some ⟨b,o+dn*7,none⟩)∧(W.cell? ⟨b,o+dn*7,none⟩=some (.slice T9.a0 (nth ds dn).jobs.length T9.n0)∧W.cell? ⟨b,o+dn*7+1,none⟩=some (.slice T9.a1 (nth ds dn).released.length T9.n1)∧W.cell? ⟨b,o+dn*7+2,none⟩=some (.int .i64 (nth ds dn).next)∧W.cell? ⟨b,o+dn*7+3,none⟩=some (.slice T9.a2 (nth ds dn).ins.length T9.n2)∧W.cell? ⟨b,o+dn*7+4,none⟩=some (.slice T9.a3 (nth ds dn).taken.length T9.n3)∧W.cell? ⟨b,o+dn*7+5,none⟩=some (.slice T9.a4 (nth ds dn).outs.length T9.n4)∧W.cell? ⟨b,o+dn*7+6,none⟩=some (.slice T9.a5 (nth ds dn).events.length T9.n5))∧TDom.At (Rng w1.heap.size W.heap.size) W (nth ds dn) T9)∧Fa l 8 (Lst l 4∧Lst l 5∧∃T9,f 25= .agg #[.slice T9.a0 (nth ds dn).jobs.length T9.n0,.slice T9.a1 (nth ds dn).released.length T9.n1,.int .i64 (nth ds dn).next,.slice T9.a2 (nth ds dn).ins.length T9.n2,.slice T9.a3 (nth ds dn).taken.length T9.n3,.slice T9.a4 (nth ds dn).outs.length T9.n4,.slice T9.a5 (nth ds dn).events.length T9.n5]∧TDom.At (Rng w1.heap.size W.heap.size) W (nth ds dn) T9)) (by kernel_rfl) (by decide) (by kernel_rfl) (by kernel_rfl) (by intro s hs;simp at hs⊢;omega) ?_ ?_ ?_
  ·intro l hz hl
   exact ⟨⟨(Below.refl _ _).drew,hz⟩,.no (hl 0),.no (hl 1),.no (hl 2),.no (hl 3),.no (hl 4),.no (hl 5),.no (hl 6),.no (hl 7),.no (hl 8)⟩
  ·simp only [List.take_succ_cons,List.take_zero]
   refine StepsL.c 1 [] (fun l f W hR hn hb K Q2 hK=>?_) ?_
   ·obtain ⟨hS,h0,h1,h2,h3,h4,h5,h6,h7,h8⟩:=hR
    clear hb
    refine ⟨?_⟩
    simp only [pfs] at hK⊢
    have hbx:=(hS.1.block _ (by omega)).trans kc_
    obtain ⟨cX,fX,zX⟩:=blk hbx
    go_simp
    exact hK.out _ _ byK
   refine StepsL.c 2 [] (fun l f W hR hn hb K Q2 hK=>?_) ?_
   ·obtain ⟨hS,h0,h1,h2,h3,h4,h5,h6,h7,h8⟩:=hR
    clear hb
    refine ⟨?_⟩
    simp only [pfs] at hK⊢
    have hbx:=(hS.1.block _ (by omega)).trans kc_
    obtain ⟨cX,fX,zX⟩:=blk hbx
    go_simp
    exact hK.out _ _ byK
   refine StepsL.c 3 [] (fun l f W hR hn hb K Q2 hK=>?_) ?_
   ·obtain ⟨hS,h0,h1,h2,h3,h4,h5,h6,h7,h8⟩:=hR
    clear hb
    refine ⟨?_⟩
    simp only [pfs] at hK⊢
    have hbx:=(hS.1.block _ (by omega)).trans kz_
    obtain ⟨cX,fX,zX⟩:=blk hbx
    go_simp
    exact hK.out _ _ byK
   refine StepsL.c 4 [] byOp ?_
   refine StepsL.c 5 [1,2,3] (fun l f W hR hn hb K Q2 hK=>?_) ?_
   ·obtain ⟨hS,h0,h1,h2,h3,h4,h5,h6,h7,h8⟩:=hR
    have q1:=h1.out (hb 1 (by simp))
    have q2:=h2.out (hb 2 (by simp))
    have q3:=h3.out (hb 3 (by simp))
    have HL:=H2.out W (hw1.trans (hS.1.mono (by omega)))
    clear hb
    refine ⟨?_⟩
    simp only [pfs] at hK⊢
    (try simp only [q1,q2,q3] at hK)
    go_simp
    go_at_call 21
    refine HL.mono ?_
    clear HL
    rintro e w9 ⟨Z9,rfl,hA9,hb9⟩
    try dsimp only
    try simp only [Act.put,List.setIfInBounds_toArray,List.set_cons_zero,List.set_cons_succ]
    refine hK.out _ _ ⟨⟨hS.1.trans (hb9.mono hS.1.size),by simpa using hS.2⟩,h0.k,h1.k,h2.k,h3.k,⟨fun _=>⟨Z9,rfl,hA9.mono fun b hb=>hb.2⟩⟩,⟨fun hl=>absurd (h5.out hl.b).1 hn⟩,h6.k,⟨fun hl=>absurd (h7.out hl.b).1 hn⟩,⟨fun hl=>absurd (h8.out hl.b).1 hn⟩⟩
   refine StepsL.c 6 [0,4,4] (fun l f W hR hn hb K Q2 hK=>?_) ?_
   ·obtain ⟨hS,h0,h1,h2,h3,h4,h5,h6,h7,h8⟩:=hR
    have q0:=h0.out (hb 0 (by simp))
    have q4:=h4.out (hb 4 (by simp))
    have L4:=hb 4 (by simp)
    obtain ⟨Z9,e9,hA9⟩:=q4
    have HL:=H3.out W Z9 (hw1.trans (hS.1.mono (by omega))) hA9
    clear hb
    refine ⟨?_⟩
    simp only [pfs] at hK⊢
    (try simp only [q0,e9] at hK)
    go_simp
    go_at_call 19
    refine HL.mono ?_
    clear HL
    rintro e w9 ⟨A9,n9,rfl,hD9,hb9⟩
    try dsimp only
    try simp only [Act.put,List.setIfInBounds_toArray,List.set_cons_zero,List.set_cons_succ]
    refine hK.out _ _ ⟨⟨hS.1.trans (hb9.mono hS.1.size),by simpa using hS.2⟩,h0.k,h1.k,h2.k,h3.k,⟨fun hl=>(match (h4.out hl.b) with|⟨Z9,e,h⟩=>⟨Z9,e,(h.keep fun b hb=>hb9.block b hb).mono fun b hb=>Nat.lt_of_lt_of_le hb hb9.size⟩)⟩,⟨fun _=>⟨L4.fwd,A9,n9,rfl,Sl.mono (DomsO.at hD9) fun b hb=>⟨by have:=hb.1;have:=hS.1.size;omega,hb.2⟩⟩⟩,h6.k,⟨fun hl=>absurd (h7.out hl.b).2.1 hn⟩,⟨fun hl=>absurd (h8.out hl.b).2.1 hn⟩⟩
   refine StepsL.c 7 [] byOp ?_
   refine StepsL.c 8 [5,6] (fun l f W hR hn hb K Q2 hK=>?_) ?_
   ·obtain ⟨hS,h0,h1,h2,h3,h4,h5,h6,h7,h8⟩:=hR
    have q5:=h5.out (hb 5 (by simp))
    have q6:=h6.out (hb 6 (by simp))
    have L5:=hb 5 (by simp)
    obtain ⟨L4,A9,n9,e9,hD9⟩:=q5
    obtain ⟨b,o,T9,rfl,hI,k0,k1,k2,k3,k4,k5,k6,hT9⟩:=hD9.at_dom hdl.out
    clear hb
    refine ⟨?_⟩
    simp only [pfs] at hK⊢
    (try simp only [q6,e9] at hK)
    simp only [q6,e9]
    go_simp
    refine hK.out _ _ ⟨⟨hS.1,by simpa using hS.2⟩,h0.k,h1.k,h2.k,h3.k,h4.k,h5.m,h6.k,⟨fun _=>⟨L4.fwd,L5.fwd,b,o,T9,rfl,⟨k0,k1,k2,k3,k4,k5,k6⟩,hT9⟩⟩,h8.m⟩
   refine StepsL.c 9 [7] (fun l f W hR hn hb K Q2 hK=>?_) ?_
   ·obtain ⟨hS,h0,h1,h2,h3,h4,h5,h6,h7,h8⟩:=hR
    have q7:=h7.out (hb 7 (by simp))
    obtain ⟨L4,L5,b,o,T9,e9,⟨k0,k1,k2,k3,k4,k5,k6⟩,hT9⟩:=q7
    clear hb
    refine ⟨?_⟩
    simp only [pfs] at hK⊢
    (try simp only [e9] at hK)
    simp only [e9]
    go_simp
    refine hK.out _ _ ⟨⟨hS.1,by simpa using hS.2⟩,h0.k,h1.k,h2.k,h3.k,h4.k,h5.m,h6.k,h7.m,⟨fun _=>⟨L4.fwd,L5.fwd,T9,rfl,hT9⟩⟩⟩
   exact StepsL.nil
  ·intro l f W hR hall
   obtain ⟨hS,h0,h1,h2,h3,h4,h5,h6,h7,h8⟩:=hR
   have q0:=h0.out (hall 0 (by decide))
   have q1:=h1.out (hall 1 (by decide))
   have q2:=h2.out (hall 2 (by decide))
   have q3:=h3.out (hall 3 (by decide))
   have q4:=h4.out (hall 4 (by decide))
   have q5:=h5.out (hall 5 (by decide))
   have q6:=h6.out (hall 6 (by decide))
   have q7:=h7.out (hall 7 (by decide))
   have q8:=h8.out (hall 8 (by decide))
   clear h0 h1 h2 h3 h4 h5 h6 h7 h8
   simp only [List.drop_succ_cons,List.drop_zero]
   obtain ⟨_,_,T9,e9,hT9⟩:=q8
   have hb1:=hS.1
   have hz9:=hb1.size
   have kr:=(hb1.block _ (by omega)).trans kr_
   obtain ⟨cr,fr,zr⟩:=blk kr
   simp only [putF,Act.put,List.setIfInBounds_toArray,List.set_cons_zero,List.set_cons_succ,e9]
   replace hT9:=zH hT9
   clear q0 q1 q2 q3 q4 q5 q6 q7 e9 hall hS
   go_wp2_with fail
   have e6:=dom_set (u0:= .slice T9.a0 (nth ds dn).jobs.length T9.n0) (u1:= .slice T9.a1 (nth ds dn).released.length T9.n1) (u2:= .int .i64 (nth ds dn).next) (u3:= .slice T9.a2 (nth ds dn).ins.length T9.n2) (u4:= .slice T9.a3 (nth ds dn).taken.length T9.n3) (u5:= .slice T9.a4 (nth ds dn).outs.length T9.n4) (u6:= .slice T9.a5 (nth ds dn).events.length T9.n5) kr
   obtain ⟨c9,f9,z9⟩:=blk e6
   refine bodyPost_ret (v:= .tuple #[.agg #[.slice T9.a0 (nth ds dn).jobs.length T9.n0,.slice T9.a1 (nth ds dn).released.length T9.n1,.int .i64 (nth ds dn).next,.slice T9.a2 (nth ds dn).ins.length T9.n2,.slice T9.a3 (nth ds dn).taken.length T9.n3,.slice T9.a4 (nth ds dn).outs.length T9.n4,.slice T9.a5 (nth ds dn).events.length T9.n5],.int .i64 0]) (by simp [results,Tryd.results10,go_sem, *]) rfl ?_
   exact ⟨T9,rfl,(hT9.out.keep fun b hb=>dom_far (by have:=hb.1;omega)).mono fun b hb=>⟨by have:=hb.1;omega,by have:=hb.2;simp;omega⟩,dom_below (hw1.trans (hb1.mono (by omega))) (by omega)⟩
 ·rw [if_neg e1]
  have b1:(readyErr c sc d !=0)=true:=by simp [e1]
  clear e1
  generalize readyErr c sc d=CE at*
  go_enter Tryd.func10,Tryd.ntmps10
  go_wp2_with fail
  (go_at_call 20;refine (H1.out _ byB).mono ?_;rintro e w1 ⟨rfl,hb_w1⟩;refine kbb (show w1.heap[w.heap.size]?=some (.cells #[.int .i64 c.sets,.int .i64 c.ways,.int .i64 c.doms,.int .i64 c.pad,.int .i64 c.quantum,.slice S.a0 c.slots.length S.n0,.slice S.a1 c.owners.length S.n1,.slice S.a2 c.chans.length S.n2,.slice S.a3 c.tasks.length S.n3] 27) from (hb_w1.block _ byS).trans byH) (fun c_w1 cc_w1 fc_w1 zc_w1=>?_);refine kbb (show w1.heap[w.heap.size+1]?=some (.cells #[.slice Z.a0 sc.actions.length Z.n0,.slice Z.a1 sc.arrivals.length Z.n1,.int .i64 sc.rounds] 31) from (hb_w1.block _ byS).trans byH) (fun z_w1 cz_w1 fz_w1 zz_w1=>?_);refine kbb (show w1.heap[w.heap.size+2]?=some (.cells #[.slice none 0 0,.slice none 0 0,.int .i64 0,.slice none 0 0,.slice none 0 0,.slice none 0 0,.slice none 0 0] 46) from (hb_w1.block _ byS).trans byH) (fun r_w1 cr_w1 fr_w1 zr_w1=>?_);refine armT w hb_w1 (fun h_w1 s_w1 t_w1 hb_w1=>?_);(try simp at t_w1))
  go_wp2_with fail
  have e6:=dom_set (u0:= .slice none 0 0) (u1:= .slice none 0 0) (u2:= .int .i64 0) (u3:= .slice none 0 0) (u4:= .slice none 0 0) (u5:= .slice none 0 0) (u6:= .slice none 0 0) r_w1
  obtain ⟨c9,f9,z9⟩:=blk e6
  refine bodyPost_ret (v:= .tuple #[.agg #[.slice none 0 0,.slice none 0 0,.int .i64 0,.slice none 0 0,.slice none 0 0,.slice none 0 0,.slice none 0 0],.int .i64 CE]) (by simp [results,Tryd.results10,go_sem, *]) rfl ?_
  exact ⟨noDomS,rfl,(noDom_own _).read fun _ _ h=>h.elim,dom_below h_w1 (by omega)⟩
end Go.Proofs.YtinlmkhlgclbfabDoor
