/- LawApS -/
import Derived.Test.YtinlmkhlgclbfabDoorAs48
namespace Go.Proofs.YtinlmkhlgclbfabDoor
open Go.RowKit
set_option maxRecDepth 100000
set_option maxHeartbeats 8000000
theorem lawApartSame (c:TCfg)(S:TCfgS)(sc:TScr)(Z:TScrS)(B:Nat)(w:World)(hB:B≤w.heap.size)(hs:TCfg.At (Low B) w c S)(hz:TScr.At (Low B) w sc Z)(hP:PowTab w):
  Calls Tryd.prog 3 #[.agg #[.int .i64 c.sets,.int .i64 c.ways,.int .i64 c.doms,.int .i64 c.pad,.int .i64 c.quantum,.slice S.a0 c.slots.length S.n0,.slice S.a1 c.owners.length S.n1,.slice S.a2 c.chans.length S.n2,.slice S.a3 c.tasks.length S.n3],.agg #[.slice Z.a0 sc.actions.length Z.n0,.slice Z.a1 sc.arrivals.length Z.n1,.int .i64 sc.rounds]] w fun e w'=>e= .returned (.bool true)∧Below w.heap.size w w':=by
 have H1:=zH (fun W=>lawApartBegun W)
 have H2:=zH (fun W (h:Below w.heap.size w W)=>lawExecBegun W (hP.next h))
 have H3:=zH (fun W (h:Below w.heap.size w W)=>execRun c S sc Z B W (Nat.le_trans hB h.size) (hs.next hB h) (hz.next hB h))
 have H4:=zH (fun W (h:Below w.heap.size w W)=>apartRun c S sc Z B W (Nat.le_trans hB h.size) (hs.next hB h) (hz.next hB h))
 clear hs hz hP
 by_cases e1:checkScript c sc=0
 ·rw [e1] at H3 H4
  clear e1
  generalize execDs c sc=ds at*
  generalize execMost c sc=mo at*
  have H5:=zH (fun (A A':Option Addr) n n' W (h:Sl cDom (Low W.heap.size) W A n ds) (h':Sl cDom (Low W.heap.size) W A' n' ds)=>refSameDomains ds A A' n n' W.heap.size W (Nat.le_refl _) h h')
  go_enter Tryd.func3,Tryd.ntmps3
  go_wp2_with fail
  (go_at_call 5;refine (H1.out _).mono ?_;rintro e w1 ⟨rfl,hb_w1⟩;refine kbb (show w1.heap[w.heap.size]?=some (.cells #[.int .i64 c.sets,.int .i64 c.ways,.int .i64 c.doms,.int .i64 c.pad,.int .i64 c.quantum,.slice S.a0 c.slots.length S.n0,.slice S.a1 c.owners.length S.n1,.slice S.a2 c.chans.length S.n2,.slice S.a3 c.tasks.length S.n3] 27) from (hb_w1.block _ byS).trans byH) (fun c_w1 cc_w1 fc_w1 zc_w1=>?_);refine kbb (show w1.heap[w.heap.size+1]?=some (.cells #[.slice Z.a0 sc.actions.length Z.n0,.slice Z.a1 sc.arrivals.length Z.n1,.int .i64 sc.rounds] 31) from (hb_w1.block _ byS).trans byH) (fun z_w1 cz_w1 fz_w1 zz_w1=>?_);refine armT w hb_w1 (fun h_w1 s_w1 t_w1 hb_w1=>?_);(try simp at t_w1))
  go_wp2_with fail
  (go_at_call 6;refine (H2.out _ byB).mono ?_;rintro e w2 ⟨rfl,hb_w2⟩;refine kbb (kb c_w1 hb_w2) (fun c_w2 cc_w2 fc_w2 zc_w2=>?_);refine kbb (kb z_w1 hb_w2) (fun z_w2 cz_w2 fz_w2 zz_w2=>?_);refine armT w hb_w2 (fun h_w2 s_w2 t_w2 hb_w2=>?_);(try simp at t_w2);clear c_w1 cc_w1 fc_w1 z_w1 cz_w1 fz_w1)
  go_wp2_with fail
  (go_at_call 7;refine (H3.out _ byB).mono ?_;rintro e w3 ⟨A3,n3,rfl,hO3,hb_w3⟩;refine kbb (kb c_w2 hb_w3) (fun c_w3 cc_w3 fc_w3 zc_w3=>?_);refine kbb (kb z_w2 hb_w3) (fun z_w3 cz_w3 fz_w3 zz_w3=>?_);refine armT w hb_w3 (fun h_w3 s_w3 t_w3 hb_w3=>?_);(try simp at t_w3);clear c_w2 cc_w2 fc_w2 z_w2 cz_w2 fz_w2)
  have hO3r:Sl cDom (Low w3.heap.size) w3 A3 n3 ds:=Sl.mono (DomsO.at hO3) fun b hb=>hb.2
  replace hO3r:=zH hO3r
  clear hO3
  go_wp2_with fail
  (go_at_call 8;refine (H4.out _ byB).mono ?_;rintro e w4 ⟨A4,n4,rfl,hO4,hb_w4⟩;refine kbb (kb c_w3 hb_w4) (fun c_w4 cc_w4 fc_w4 zc_w4=>?_);refine kbb (kb z_w3 hb_w4) (fun z_w4 cz_w4 fz_w4 zz_w4=>?_);refine armT w hb_w4 (fun h_w4 s_w4 t_w4 hb_w4=>?_);(try simp at t_w4);clear c_w3 cc_w3 fc_w3 z_w3 cz_w3 fz_w3)
  have hO4r:Sl cDom (Low w4.heap.size) w4 A4 n4 ds:=Sl.mono (DomsO.at hO4) fun b hb=>hb.2
  replace hO4r:=zH hO4r
  clear hO4
  go_wp2_with fail
  (go_at_call 9;refine (H5.out A3 A4 n3 n4 _ ((hO3r.out.next (Nat.le_refl _) byB).up byS) ((hO4r.out.next (Nat.le_refl _) byB).up byS)).mono ?_;rintro e w5 ⟨rfl,hb_w5⟩;refine armT w hb_w5 (fun h_w5 s_w5 t_w5 hb_w5=>?_);(try simp at t_w5))
  go_wp2_with fail
  go_ret
  exact ⟨rfl,byB⟩
 ·have R:execDs c sc=[]:=if_neg e1
  rw [R] at H3 H4
  clear R
  have b1:(checkScript c sc==0)=false:=by simp [e1]
  clear e1
  generalize checkScript c sc=CE at*
  generalize execMost c sc=mo at*
  have H5:=zH (fun (A A':Option Addr) n n' W (h:Sl cDom (Low W.heap.size) W A n []) (h':Sl cDom (Low W.heap.size) W A' n' [])=>refSameDomains [] A A' n n' W.heap.size W (Nat.le_refl _) h h')
  go_enter Tryd.func3,Tryd.ntmps3
  go_wp2_with fail
  (go_at_call 5;refine (H1.out _).mono ?_;rintro e w1 ⟨rfl,hb_w1⟩;refine kbb (show w1.heap[w.heap.size]?=some (.cells #[.int .i64 c.sets,.int .i64 c.ways,.int .i64 c.doms,.int .i64 c.pad,.int .i64 c.quantum,.slice S.a0 c.slots.length S.n0,.slice S.a1 c.owners.length S.n1,.slice S.a2 c.chans.length S.n2,.slice S.a3 c.tasks.length S.n3] 27) from (hb_w1.block _ byS).trans byH) (fun c_w1 cc_w1 fc_w1 zc_w1=>?_);refine kbb (show w1.heap[w.heap.size+1]?=some (.cells #[.slice Z.a0 sc.actions.length Z.n0,.slice Z.a1 sc.arrivals.length Z.n1,.int .i64 sc.rounds] 31) from (hb_w1.block _ byS).trans byH) (fun z_w1 cz_w1 fz_w1 zz_w1=>?_);refine armT w hb_w1 (fun h_w1 s_w1 t_w1 hb_w1=>?_);(try simp at t_w1))
  go_wp2_with fail
  (go_at_call 6;refine (H2.out _ byB).mono ?_;rintro e w2 ⟨rfl,hb_w2⟩;refine kbb (kb c_w1 hb_w2) (fun c_w2 cc_w2 fc_w2 zc_w2=>?_);refine kbb (kb z_w1 hb_w2) (fun z_w2 cz_w2 fz_w2 zz_w2=>?_);refine armT w hb_w2 (fun h_w2 s_w2 t_w2 hb_w2=>?_);(try simp at t_w2);clear c_w1 cc_w1 fc_w1 z_w1 cz_w1 fz_w1)
  go_wp2_with fail
  (go_at_call 7;refine (H3.out _ byB).mono ?_;rintro e w3 ⟨A3,n3,rfl,hO3,hb_w3⟩;refine kbb (kb c_w2 hb_w3) (fun c_w3 cc_w3 fc_w3 zc_w3=>?_);refine kbb (kb z_w2 hb_w3) (fun z_w3 cz_w3 fz_w3 zz_w3=>?_);refine armT w hb_w3 (fun h_w3 s_w3 t_w3 hb_w3=>?_);(try simp at t_w3);clear c_w2 cc_w2 fc_w2 z_w2 cz_w2 fz_w2)
  have hO3r:Sl cDom (Low w3.heap.size) w3 A3 n3 []:=Sl.mono (DomsO.at hO3) fun b hb=>hb.2
  replace hO3r:=zH hO3r
  clear hO3
  go_wp2_with fail
  (go_at_call 8;refine (H4.out _ byB).mono ?_;rintro e w4 ⟨A4,n4,rfl,hO4,hb_w4⟩;refine kbb (kb c_w3 hb_w4) (fun c_w4 cc_w4 fc_w4 zc_w4=>?_);refine kbb (kb z_w3 hb_w4) (fun z_w4 cz_w4 fz_w4 zz_w4=>?_);refine armT w hb_w4 (fun h_w4 s_w4 t_w4 hb_w4=>?_);(try simp at t_w4);clear c_w3 cc_w3 fc_w3 z_w3 cz_w3 fz_w3)
  have hO4r:Sl cDom (Low w4.heap.size) w4 A4 n4 []:=Sl.mono (DomsO.at hO4) fun b hb=>hb.2
  replace hO4r:=zH hO4r
  clear hO4
  go_wp2_with fail
  (go_at_call 9;refine (H5.out A3 A4 n3 n4 _ ((hO3r.out.next (Nat.le_refl _) byB).up byS) ((hO4r.out.next (Nat.le_refl _) byB).up byS)).mono ?_;rintro e w5 ⟨rfl,hb_w5⟩;refine armT w hb_w5 (fun h_w5 s_w5 t_w5 hb_w5=>?_);(try simp at t_w5))
  go_wp2_with fail
  go_ret
  exact ⟨rfl,byB⟩
end Go.Proofs.YtinlmkhlgclbfabDoor
