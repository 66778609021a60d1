/- CacheD -/
import Derived.Test.YtinlmkhlgclbfabDoorAs17
import Derived.Deep.RegionLaw
namespace Go.Proofs.YtinlmkhlgclbfabDoor
open Go.RowKit
set_option maxRecDepth 100000
set_option maxHeartbeats 400000
theorem cacheTouch1 (l line:Int)(d:Bool)(g:Nat)(w:World)(hc:w.cell? ⟨g,0,none⟩=some (.int .i64 line)):
  Calls Tryd.prog 96 #[.agg #[.int .i64 l,.bool d],.pointer (some ⟨g,0,none⟩)] w fun e w'=>e= .returned (.bool (l==line))∧Below w.heap.size w w':=by
 have hlt:g < w.heap.size:=World.block_lt_of_cell? w _ hc
 go_enter Tryd.func96,Tryd.ntmps96
 go_wp2
 go_ret
 exact ⟨rfl,byB⟩
theorem enters_touch1:Enters Tryd.prog 96:=fun _ _=>by kernel_rfl
theorem touch_cells {ws:List TWay}{k:Nat}(hk:k < ws.length){cur:List Value}(hcur:cur.take (ws.length*2)=ws.flatMap TWay.cells)(x:TWay):
  (((splice cur 2 ((ws.take k).flatMap TWay.cells)).set 0 (.int .i64 x.line)).set 1 (.bool x.dirty)).take (ws.length*2)=(x::ws.eraseIdx k).flatMap TWay.cells:=by
 have hf:∀x:TWay,x.cells.length=2:=fun _=>rfl
 have hlen:ws.length*2≤cur.length:=by
  have:=congrArg List.length hcur
  rw [List.length_take,flatMap_len hf] at this;omega
 have h1:((ws.take k).flatMap TWay.cells).length=k*2:=by rw [flatMap_len hf,List.length_take];omega
 obtain ⟨a,b,r,rfl⟩:∃a b r,cur=a::b::r:=by
  match cur,hlen with
  |a::b::r,_=>exact ⟨a,b,r,rfl⟩
  |[a],h=>simp at h;omega
  |[],h=>simp at h;omega
 have h2:((a::b::r).drop (2+k*2)).take (ws.length*2 - 2 - k*2)=(ws.drop (k+1)).flatMap TWay.cells:=by
  rw [← flatMap_drop hf,← hcur,List.drop_take]
  rw [show (k+1)*2=2+k*2 by omega,show ws.length*2 - 2 - k*2=ws.length*2 - (2+k*2) by omega]
 unfold splice
 rw [h1]
 simp only [List.take_succ_cons,List.take_zero,List.cons_append,List.nil_append,List.set_cons_zero,List.set_cons_succ]
 rw [List.eraseIdx_eq_take_drop_succ,List.flatMap_cons,List.flatMap_append,← h2]
 obtain ⟨m,hm⟩:∃m,ws.length*2=m+1+1:=⟨ws.length*2 - 2,by omega⟩
 rw [hm,List.take_succ_cons,List.take_succ_cons,List.take_append,h1]
 rw [List.take_of_length_le (by rw [h1];omega),show m - k*2=m+1+1 - 2 - k*2 by omega]
 rfl
set_option maxHeartbeats 1000000 in
theorem cacheTouch (c:List (List TWay))(ok:CacheOk c)(line:Int)(write:Bool)(hl1:1≤line)(hl2:line≤1000)(A:Option Addr)(n:Nat)(F:Nat→Prop)(w:World)(hO:OCache F w (.slice A c.length n) c)(hF:∀b,F b→b < w.heap.size):
  Calls Tryd.prog 93 #[.agg #[.slice A c.length n],.int .i64 line,.bool write] w fun en w'=>en= .returned (.int .i64 (accessCost c line))∧OCache F w' (.slice A c.length n) (accessOf c line write)∧Only F w w':=by
 have hm:line % (c.length:Int)=(setOf c line:Int):=by
  unfold setOf
  have:=Int.emod_nonneg line (show (c.length:Int)≠0 by have:=ok.h1;omega)
  omega
 have hmlt:=setOf_lt ok.h1 line
 have hL:(nth c (setOf c line)).length=(nth c 0).length:=ok.same _ hmlt
 have hL1:=ok.w1
 have hL3:=ok.w3
 have hc4:=ok.h4
 have hso:=ok.set _ hmlt
 have hcost:accessCost c line=touchCost (nth c (setOf c line)) line:=rfl
 have hacc:accessOf c line write=c.set (setOf c line) (touchSet (nth c (setOf c line)) line write):=rfl
 obtain ⟨g,cp,es,Gi,hv,hFg,hrel,hcells,hG,hput⟩:=osl_elem hO hmlt
 injection hv with e1 e2 e3
 subst e1;subst e3
 obtain ⟨v,rfl,hS⟩:=hrel
 obtain ⟨A',c',rfl⟩:=hS.form
 obtain ⟨hown,hGi⟩:=osl_flat.1 hS
 have hrd:=hS.read
 rw [hcost,hacc]
 have hput:=fun w' x' h1 h2=>hput w' x' h1 h2
 generalize hwsd:nth c (setOf c line)=ws at*
 generalize hmd:setOf c line=m at*
 rcases hown.2 with ⟨_,h0⟩|⟨g',cap,cur,e,_,hg',hn,hmx,hcs,htake⟩
 ·omega
 ·injection e with e1 e2 e3
  subst e1;subst e3
  have hgG:Gi g':=hGi g' rfl
  have hgF:=(hG g' hgG).1
  have hgs:=hF g' hgF
  have hgne:=(hG g' hgG).2
  have hgs0:=hF g hFg
  have hc0:w.cell? ⟨g,m*1+0,none⟩=some (.slice (some ⟨g',0,none⟩) ws.length c'):=hcells 0 _ rfl
  rw [Nat.mul_one,Nat.add_zero] at hc0
  have hw3:ws.length≤3:=by omega
  have hw1:1≤ws.length:=by omega
  clear hL hL1 hL3
  have HR:=zH (show Sl cWay (Low w.heap.size) w (some ⟨g',0,none⟩) c' ws from hrd.mono fun b hb=>hF b (hG b hb).1)
  have hrem:(0:Int)≤line:=by omega
  have hm0:(0:Int)≤m:=by omega
  have hm1:(m:Int) < c.length:=by omega
  have HT:=zH (fun W (h:Below w.heap.size w W) (hg:W.cell? ⟨w.heap.size+1,0,none⟩=some (.int .i64 line))=>
   indexWay ws (some ⟨g',0,none⟩) c' 96 #[.pointer (some ⟨w.heap.size+1,0,none⟩)] (fun j=>(nth ws j).line==line) w.heap.size W h.size (HR.out.next (Nat.le_refl _) h) enters_touch1
    (fun j hj W' hb=>cacheTouch1 _ _ _ _ W' ((hb.cell (p:=⟨w.heap.size+1,0,none⟩) (World.block_lt_of_cell? W _ hg)).trans hg)))
  have hKlt:=touchK_lt line hw1
  have HH:=zH hg'
  have hmp:=zH (And.intro hput htake)
  have HX:=zH (And.intro hcells (And.intro hcs (And.intro hwsd (And.intro hmd hGi))))
  have hcsz:ws.length*2≤cur.size:=by have:=congrArg List.length htake;rw [List.length_take,flatMap_len (k:=2) (f:=TWay.cells) (fun _=>rfl)] at this;simp at this;omega
  clear hput htake hcells hcs hwsd hmd hcost hacc hrd hS hown hg' hGi hG
  have hcut0:(touchW ws line write).line=line:=touchW_line ws line write
  have HL:=zH hcut0
  clear hcut0
  rcases lineAt_cases ws line with ⟨k,hk,hla,hxl,_⟩|⟨hla,hno⟩
  ·have hla':findI ws.length (fun j=>(nth ws j).line==line)=k:=hla
   rw [hla'] at HT
   have hK:touchK ws line=k:=by unfold touchK;rw [hla];simp
   have hW:touchW ws line write=⟨line,(nth ws k).dirty||write⟩:=by unfold touchW;rw [hla,if_pos (by omega),hK]
   have hC:touchCost ws line=1:=by unfold touchCost;rw [hla,if_pos (by omega)]
   obtain ⟨b',o',hb',_,hd0,hd1⟩:=HR.out.at_way hk
   injection hb' with hb';injection hb' with e1 e2
   subst e1;subst e2
   rw [Nat.zero_add] at hd0 hd1
   rw [hxl] at hd0
   have HS:=zH (show touchSet ws line write=⟨line,(nth ws k).dirty||write⟩::ws.eraseIdx k by unfold touchSet;rw [hW,hK])
   have HCo:=zH hC
   have hk0:(0:Int)≤k:=by omega
   have hk1:(k:Int) < ws.length:=by omega
   clear hla hla' hK hW hC hxl
   go_enter Tryd.func93,Tryd.ntmps93
   go_wp2_with fail
   go_quiet (fail)
   go_wp2_with fail
   go_at_call 95
   refine (HT.out _ byB (by simp [go_sem])).mono ?_;skip;rintro e w1 ⟨rfl,hb1⟩;have B1:Below w.heap.size w w1:=byB;have s1:=B1.size;have z1:=hb1.size;(try simp at z1);obtain ⟨hcw1,hfw1⟩:=bcell hb1
   have q1:w1.heap[w.heap.size+1]?=some (.cells #[.int .i64 line] 3):=(hb1.block _ (by simp)).trans byH
   have qg:w1.heap[g']?=some (.cells cur 122 (0,0)):=(hb1.block _ (by simp;omega)).trans ((heap_alloc_old _ _ (by simp;omega)).trans ((heap_alloc_old _ _ hgs).trans HH.out))
   obtain ⟨c1,f1,y1⟩:=blk q1
   clear hcw1 hfw1
   have p0:w1.cell? ⟨g',k*2,none⟩=some (.int .i64 line):=(B1.cell (p:=⟨g',k*2,none⟩) hgs).trans hd0
   have p1:w1.cell? ⟨g',k*2+1,none⟩=some (.bool (nth ws k).dirty):=(B1.cell (p:=⟨g',k*2+1,none⟩) hgs).trans hd1
   have hgw:g' < w1.heap.size:=by omega
   have hgn:g'≠w1.heap.size:=by omega
   have hgn2:w1.heap.size≠g':=by omega
   have qq:w1.cell? ⟨w.heap.size+1,0,none⟩=some (.int .i64 line):=(c1 0).trans rfl
   have hkc:(k:Int)+1≤c':=by omega
   have hkc0:(k:Int)≤c':=by omega
   have hcc1:(1:Int)≤c':=by omega
   have HlA:=zH (show ((ws.take k).flatMap TWay.cells).length=k*2 by rw [flatMap_len (k:=2) (f:=TWay.cells) (fun _=>rfl),List.length_take,Nat.min_eq_left (by omega)])
   have HlB:=zH (show ∀(W:World) (j:Nat) (u:Value),((ws.take k).flatMap TWay.cells)[j]?=some u→W.heap[g']?=some (.cells cur 122 (0,0))→W.cell? ((⟨g',0,none⟩:Addr).add j)=some u by
    intro W j u hu hW
    rw [Addr.add_lit,Nat.zero_add,cell_of_row W g' j cur 122 (0,0) hW]
    rw [← flatMap_take (k:=2) (f:=TWay.cells) (fun _=>rfl),← hmp.out.2,List.take_take,List.getElem?_take] at hu
    split at hu
    ·simpa using hu
    ·cases hu)
   have HlC:=zH (show 2+((ws.take k).flatMap TWay.cells).length≤cur.size by rw [HlA.out];omega)
   go_wp2_with fail
   go_region_held3 (fun w'=>w'.cell? ⟨w.heap.size+1,0,none⟩=some (.int .i64 line)) (((try dsimp only);(repeat' apply And.intro)<;>(first|go_keep|(simp [go_sem, *];done)))) (fail)
   all_goals
    go_upto_region 10 with (fail)
    go_cut [46] (fun _ wx=>wx.heap[w1.heap.size]?=some (.cells #[.int .i64 line,.bool ((nth ws k).dirty||write)] 122)∧wx.heap[g']?=some (.cells cur 122 (0,0))∧KeepI (Low w.heap.size) w wx∧w1.heap.size < wx.heap.size∧Below w.heap.size w wx)
    case first=>
     cases hdd:(nth ws k).dirty
     all_goals
      rw [hdd] at p1
      have HD:=zH hdd
      clear hdd
      go_wp2_with fail
      go_meet
      refine ⟨?_,byH,byI,by simp,byB⟩
      rw [HD.out]
      simp only [Bool.false_or,Bool.true_or]
      exact byH
    case rest=>
     obtain ⟨qd,qg2,kp,zz,bx⟩:=hcut
     generalize ((nth ws k).dirty||write)=dd at*
     by_cases hcap:c'=1
     ·obtain rfl:k=0:=by omega
      have Hc:=zH hcap
      have hq1:(1:Nat)=c':=hcap.symm
      clear hcap
      subst hq1
      have hz0:((0:Nat):Int)=0:=rfl
      have hz1:((1:Nat):Int)=1:=rfl
      have hz2:IntKind.i64.wrap 1=1:=rfl
      have hz3:max (1:Int) 0=1:=rfl
      have hz4:(1:Int).toNat=1:=rfl
      go_wp2_with fail
      go_region_held3 (fun _=>True) (trivial) ((refine step_copy_grown ?_ (.tmp 50) (.tmp 53) 114 114 ?_ 122 2 Tryd.underlying114 (by kernel_rfl) g' 0 0 0 ⟨g',0,none⟩ 0 1 0 ?_ ?_ cur 122 ?_ [] ?_ ?_ ?_ ?_ ?_ ?_;rfl;rfl;rfl;rfl;exact byH;rfl;rfl;(intro j u hu;simp at hu);(simp);(intro v hv;simp at hv);intro w3 hg3 hgr3))
      have hg3:Hid (w3.heap[g']?=some (.cells (splice cur.toList 2 ((ws.take 0).flatMap TWay.cells)).toArray 122 (0,0))):=zH (hg3.out.trans (by simp [splice]))
      clear hz0 hz1 hz2 hz3 hz4
      have qd3:w3.heap[w1.heap.size]?=some (.cells #[.int .i64 line,.bool dd] 122):=(hgr3.block _ (by simpa using zz) (by intro e;injection e with e;omega)).trans byH
      obtain ⟨cd,fd,zd⟩:=blk qd3
      obtain ⟨cg,fg,zg⟩:=blk hg3.out
      have hspl:=length_splice cur.toList 2 ((ws.take 0).flatMap TWay.cells) (by simpa using HlC.out)
      have hsz3:2≤(splice cur.toList 2 ((ws.take 0).flatMap TWay.cells)).length:=by rw [hspl];simp;omega
      have hcg0:(w3.cell? ⟨g',0,none⟩).isSome=true:=by rw [cg 0,List.getElem?_toArray,List.getElem?_eq_getElem (by omega)];rfl
      have hcg1:(w3.cell? ⟨g',1,none⟩).isSome=true:=by rw [cg 1,List.getElem?_toArray,List.getElem?_eq_getElem (by omega)];rfl
      obtain ⟨x0,hx0⟩:=Option.isSome_iff_exists.1 hcg0
      obtain ⟨x1,hx1⟩:=Option.isSome_iff_exists.1 hcg1
      have k3:∀b,b < w.heap.size→b≠g'→w3.heap[b]?=w.heap[b]?:=fun b hb hne=>(hgr3.block b (by simp;omega) (by intro e;injection e with e;exact hne e)).trans (kp b hb)
      have K3:=zH k3
      have HSP:=zH hspl
      clear k3 cg hcg0 hcg1 hspl
      go_wp2_with fail
      go_ret
      rw [HS.out,HCo.out]
      have HLen:(⟨line,dd⟩::ws.eraseIdx 0:List TWay).length=ws.length:=by rw [List.length_cons,List.length_eraseIdx,if_pos (by omega)];omega
      have hheap:=heap_set_same (i:=1) (u:= .bool dd) (heap_set_same (i:=0) (u:= .int .i64 line) hg3.out)
      have hcsz2:=HX.out.2.1
      have hfar:∀b,b < w.heap.size→b≠g'→((w3.setCell ⟨g',0,none⟩ (.int .i64 line)).setCell ⟨g',1,none⟩ (.bool dd)).heap[b]?=w.heap[b]?:=fun b hb hne=>(Below.heap_setCell _ _ _ _ hne).trans ((Below.heap_setCell _ _ _ _ hne).trans (K3.out b hb hne))
      refine ⟨rfl,hmp.out.1 _ _ ⟨_,rfl,osl_flat.2 ⟨?_,HX.out.2.2.2.2⟩⟩ ?_,?_⟩
      ·rw [HLen]
       refine ⟨by rw [flatMap_len (k:=2) (f:=TWay.cells) (fun _=>rfl),HLen],.inr ⟨g',1,_,rfl,Nat.zero_le _,hheap,hn,hmx,?_,?_⟩⟩
       ·simp only [Array.size_setIfInBounds,List.size_toArray,HSP.out];simpa using hcsz2
       ·simp only [Array.toList_setIfInBounds]
        exact touch_cells (by omega) hmp.out.2 ⟨line,dd⟩
      ·intro b hb hnb
       exact hfar b (hF b hb) fun e=>hnb (e ▸ hgG)
      ·refine ⟨?_,?_,?_,?_,fun b hb hnb=>hfar b hb fun e=>hnb (e ▸ hgF)⟩
       ·exact hgr3.os.trans bx.os
       ·exact hgr3.tape.trans bx.tape
       ·exact hgr3.output.trans bx.output
       ·have h1:=hgr3.size
        have h2:=bx.size
        simp at h1⊢
        omega
     ·have hq1:IntKind.i64.wrap ((k:Int)+1)=(k:Int)+1:=IntWalk.i64_in _ (by omega)
      have hq2:(0:Int)≤(k:Int)+1:=by omega
      have hq3:((k:Int)+1).toNat=k+1:=by omega
      have hq4:max ((k:Int)+1) 0=(k:Int)+1:=by omega
      have hq5:(1:Int)≤(k:Int)+1:=by omega
      go_wp2_with fail
      go_region_held3 (fun _=>True) (trivial) ((refine step_copy_grown ?_ (.tmp 50) (.tmp 53) 114 114 ?_ 122 2 Tryd.underlying114 (by kernel_rfl) g' 2 k (c' - 1) ⟨g',0,none⟩ k c' k ?_ ?_ cur 122 ?_ ((ws.take k).flatMap TWay.cells) ?_ ?_ ?_ ?_ (one_way _) ?_;rfl;rfl;rfl;rfl;exact byH;simp;exact HlA.out;exact (fun j u hu=>HlB.out _ j u hu byH);exact HlC.out;intro w3 hg3 hgr3))
      clear hq1 hq2 hq3 hq4 hq5
      have qd3:w3.heap[w1.heap.size]?=some (.cells #[.int .i64 line,.bool dd] 122):=(hgr3.block _ (by simpa using zz) (by intro e;injection e with e;omega)).trans byH
      obtain ⟨cd,fd,zd⟩:=blk qd3
      obtain ⟨cg,fg,zg⟩:=blk hg3.out
      have hspl:=length_splice cur.toList 2 ((ws.take k).flatMap TWay.cells) (by simpa using HlC.out)
      have hsz3:2≤(splice cur.toList 2 ((ws.take k).flatMap TWay.cells)).length:=by rw [hspl];simp;omega
      have hcg0:(w3.cell? ⟨g',0,none⟩).isSome=true:=by rw [cg 0,List.getElem?_toArray,List.getElem?_eq_getElem (by omega)];rfl
      have hcg1:(w3.cell? ⟨g',1,none⟩).isSome=true:=by rw [cg 1,List.getElem?_toArray,List.getElem?_eq_getElem (by omega)];rfl
      obtain ⟨x0,hx0⟩:=Option.isSome_iff_exists.1 hcg0
      obtain ⟨x1,hx1⟩:=Option.isSome_iff_exists.1 hcg1
      have k3:∀b,b < w.heap.size→b≠g'→w3.heap[b]?=w.heap[b]?:=fun b hb hne=>(hgr3.block b (by simp;omega) (by intro e;injection e with e;exact hne e)).trans (kp b hb)
      have K3:=zH k3
      have HSP:=zH hspl
      clear k3 cg hcg0 hcg1 hspl
      go_wp2_with fail
      go_ret
      rw [HS.out,HCo.out]
      have HLen:(⟨line,dd⟩::ws.eraseIdx k:List TWay).length=ws.length:=by rw [List.length_cons,List.length_eraseIdx,if_pos (by omega)];omega
      have hheap:=heap_set_same (i:=1) (u:= .bool dd) (heap_set_same (i:=0) (u:= .int .i64 line) hg3.out)
      have hcsz2:=HX.out.2.1
      have hfar:∀b,b < w.heap.size→b≠g'→((w3.setCell ⟨g',0,none⟩ (.int .i64 line)).setCell ⟨g',1,none⟩ (.bool dd)).heap[b]?=w.heap[b]?:=fun b hb hne=>(Below.heap_setCell _ _ _ _ hne).trans ((Below.heap_setCell _ _ _ _ hne).trans (K3.out b hb hne))
      refine ⟨rfl,hmp.out.1 _ _ ⟨_,rfl,osl_flat.2 ⟨?_,HX.out.2.2.2.2⟩⟩ ?_,?_⟩
      ·rw [HLen]
       refine ⟨by rw [flatMap_len (k:=2) (f:=TWay.cells) (fun _=>rfl),HLen],.inr ⟨g',c',_,rfl,Nat.zero_le _,hheap,hn,hmx,?_,?_⟩⟩
       ·simp only [Array.size_setIfInBounds,List.size_toArray,HSP.out];simpa using hcsz2
       ·simp only [Array.toList_setIfInBounds]
        exact touch_cells (by omega) hmp.out.2 ⟨line,dd⟩
      ·intro b hb hnb
       exact hfar b (hF b hb) fun e=>hnb (e ▸ hgG)
      ·refine ⟨?_,?_,?_,?_,fun b hb hnb=>hfar b hb fun e=>hnb (e ▸ hgF)⟩
       ·exact hgr3.os.trans bx.os
       ·exact hgr3.tape.trans bx.tape
       ·exact hgr3.output.trans bx.output
       ·have h1:=hgr3.size
        have h2:=bx.size
        simp at h1⊢
        omega
  ·have hla':findI ws.length (fun j=>(nth ws j).line==line)= -1:=hla
   rw [hla'] at HT
   obtain ⟨k,hkL⟩:∃k,ws.length=k+1:=⟨ws.length - 1,by omega⟩
   have hk:k < ws.length:=by omega
   have hK:touchK ws line=k:=by unfold touchK;rw [hla];simp;omega
   have hW:touchW ws line write=⟨line,write⟩:=by unfold touchW;rw [hla,if_neg (show ¬ (0:Int)≤-1 by omega)]
   have HS:=zH (show touchSet ws line write=⟨line,write⟩::ws.eraseIdx k by unfold touchSet;rw [hW,hK])
   have HC0:=zH (show touchCost ws line=if (nth ws k).dirty then 15 else 10 by unfold touchCost;rw [hla,if_neg (show ¬ (0:Int)≤-1 by omega),hkL];rfl)
   obtain ⟨b',o',hb',_,hd0,hd1⟩:=HR.out.at_way hk
   injection hb' with hb';injection hb' with e1 e2
   subst e1;subst e2
   rw [Nat.zero_add] at hd0 hd1
   have hk0:(0:Int)≤k:=by omega
   have hk1:(k:Int) < ws.length:=by omega
   have hLk:(ws.length:Int) - 1=k:=by omega
   clear hla hla' hK hW hno hkL
   cases hdd:(nth ws k).dirty
   all_goals
    have HCo:=zH (HC0.out.trans (by rw [hdd]))
    simp only [Bool.false_eq_true,if_false,if_true] at HCo
    rw [hdd] at hd1
    clear hdd HC0
    go_enter Tryd.func93,Tryd.ntmps93
    go_wp2_with fail
    go_quiet (fail)
    go_wp2_with fail
    go_at_call 95
    refine (HT.out _ byB (by simp [go_sem])).mono ?_;skip;rintro e w1 ⟨rfl,hb1⟩;have B1:Below w.heap.size w w1:=byB;have s1:=B1.size;have z1:=hb1.size;(try simp at z1);obtain ⟨hcw1,hfw1⟩:=bcell hb1
    have q1:w1.heap[w.heap.size+1]?=some (.cells #[.int .i64 line] 3):=(hb1.block _ (by simp)).trans byH
    have qg:w1.heap[g']?=some (.cells cur 122 (0,0)):=(hb1.block _ (by simp;omega)).trans ((heap_alloc_old _ _ (by simp;omega)).trans ((heap_alloc_old _ _ hgs).trans HH.out))
    obtain ⟨c1,f1,y1⟩:=blk q1
    clear hcw1 hfw1
    have p1:w1.cell? ⟨g',k*2+1,none⟩=some (.bool _):=(B1.cell (p:=⟨g',k*2+1,none⟩) hgs).trans hd1
    have hgw:g' < w1.heap.size:=by omega
    have hgn:g'≠w1.heap.size:=by omega
    have hgn2:w1.heap.size≠g':=by omega
    have qq:w1.cell? ⟨w.heap.size+1,0,none⟩=some (.int .i64 line):=(c1 0).trans rfl
    have hkc:(k:Int)+1≤c':=by omega
    have hkc0:(k:Int)≤c':=by omega
    have hcc1:(1:Int)≤c':=by omega
    have HlA:=zH (show ((ws.take k).flatMap TWay.cells).length=k*2 by rw [flatMap_len (k:=2) (f:=TWay.cells) (fun _=>rfl),List.length_take,Nat.min_eq_left (by omega)])
    have HlB:=zH (show ∀(W:World) (j:Nat) (u:Value),((ws.take k).flatMap TWay.cells)[j]?=some u→W.heap[g']?=some (.cells cur 122 (0,0))→W.cell? ((⟨g',0,none⟩:Addr).add j)=some u by
     intro W j u hu hW
     rw [Addr.add_lit,Nat.zero_add,cell_of_row W g' j cur 122 (0,0) hW]
     rw [← flatMap_take (k:=2) (f:=TWay.cells) (fun _=>rfl),← hmp.out.2,List.take_take,List.getElem?_take] at hu
     split at hu
     ·simpa using hu
     ·cases hu)
    have HlC:=zH (show 2+((ws.take k).flatMap TWay.cells).length≤cur.size by rw [HlA.out];omega)
    go_wp2_with fail
    go_region_held3 (fun w'=>w'.cell? ⟨w.heap.size+1,0,none⟩=some (.int .i64 line)) (((try dsimp only);(repeat' apply And.intro)<;>(first|go_keep|(simp [go_sem, *];done)))) (fail)
    all_goals
     go_upto_region 10 with (fail)
     go_cut [46] (fun _ wx=>wx.heap[w1.heap.size]?=some (.cells #[.int .i64 line,.bool write] 122)∧wx.heap[g']?=some (.cells cur 122 (0,0))∧KeepI (Low w.heap.size) w wx∧w1.heap.size < wx.heap.size∧Below w.heap.size w wx)
     case first=>
      go_wp2_with fail
      go_meet
      exact ⟨byH,byH,byI,by simp,byB⟩
     case rest=>
      obtain ⟨qd,qg2,kp,zz,bx⟩:=hcut
      by_cases hcap:c'=1
      ·obtain rfl:k=0:=by omega
       have Hc:=zH hcap
       have hq1:(1:Nat)=c':=hcap.symm
       clear hcap
       subst hq1
       have hz0:((0:Nat):Int)=0:=rfl
       have hz1:((1:Nat):Int)=1:=rfl
       have hz2:IntKind.i64.wrap 1=1:=rfl
       have hz3:max (1:Int) 0=1:=rfl
       have hz4:(1:Int).toNat=1:=rfl
       go_wp2_with fail
       go_region_held3 (fun _=>True) (trivial) ((refine step_copy_grown ?_ (.tmp 50) (.tmp 53) 114 114 ?_ 122 2 Tryd.underlying114 (by kernel_rfl) g' 0 0 0 ⟨g',0,none⟩ 0 1 0 ?_ ?_ cur 122 ?_ [] ?_ ?_ ?_ ?_ ?_ ?_;rfl;rfl;rfl;rfl;exact byH;rfl;rfl;(intro j u hu;simp at hu);(simp);(intro v hv;simp at hv);intro w3 hg3 hgr3))
       have hg3:Hid (w3.heap[g']?=some (.cells (splice cur.toList 2 ((ws.take 0).flatMap TWay.cells)).toArray 122 (0,0))):=zH (hg3.out.trans (by simp [splice]))
       clear hz0 hz1 hz2 hz3 hz4
       have qd3:w3.heap[w1.heap.size]?=some (.cells #[.int .i64 line,.bool write] 122):=(hgr3.block _ (by simpa using zz) (by intro e;injection e with e;omega)).trans byH
       obtain ⟨cd,fd,zd⟩:=blk qd3
       obtain ⟨cg,fg,zg⟩:=blk hg3.out
       have hspl:=length_splice cur.toList 2 ((ws.take 0).flatMap TWay.cells) (by simpa using HlC.out)
       have hsz3:2≤(splice cur.toList 2 ((ws.take 0).flatMap TWay.cells)).length:=by rw [hspl];simp;omega
       have hcg0:(w3.cell? ⟨g',0,none⟩).isSome=true:=by rw [cg 0,List.getElem?_toArray,List.getElem?_eq_getElem (by omega)];rfl
       have hcg1:(w3.cell? ⟨g',1,none⟩).isSome=true:=by rw [cg 1,List.getElem?_toArray,List.getElem?_eq_getElem (by omega)];rfl
       obtain ⟨x0,hx0⟩:=Option.isSome_iff_exists.1 hcg0
       obtain ⟨x1,hx1⟩:=Option.isSome_iff_exists.1 hcg1
       have k3:∀b,b < w.heap.size→b≠g'→w3.heap[b]?=w.heap[b]?:=fun b hb hne=>(hgr3.block b (by simp;omega) (by intro e;injection e with e;exact hne e)).trans (kp b hb)
       have K3:=zH k3
       have HSP:=zH hspl
       clear k3 cg hcg0 hcg1 hspl
       go_wp2_with fail
       go_ret
       rw [HS.out,HCo.out]
       have HLen:(⟨line,write⟩::ws.eraseIdx 0:List TWay).length=ws.length:=by rw [List.length_cons,List.length_eraseIdx,if_pos (by omega)];omega
       have hheap:=heap_set_same (i:=1) (u:= .bool write) (heap_set_same (i:=0) (u:= .int .i64 line) hg3.out)
       have hcsz2:=HX.out.2.1
       have hfar:∀b,b < w.heap.size→b≠g'→((w3.setCell ⟨g',0,none⟩ (.int .i64 line)).setCell ⟨g',1,none⟩ (.bool write)).heap[b]?=w.heap[b]?:=fun b hb hne=>(Below.heap_setCell _ _ _ _ hne).trans ((Below.heap_setCell _ _ _ _ hne).trans (K3.out b hb hne))
       refine ⟨rfl,hmp.out.1 _ _ ⟨_,rfl,osl_flat.2 ⟨?_,HX.out.2.2.2.2⟩⟩ ?_,?_⟩
       ·rw [HLen]
        refine ⟨by rw [flatMap_len (k:=2) (f:=TWay.cells) (fun _=>rfl),HLen],.inr ⟨g',1,_,rfl,Nat.zero_le _,hheap,hn,hmx,?_,?_⟩⟩
        ·simp only [Array.size_setIfInBounds,List.size_toArray,HSP.out];simpa using hcsz2
        ·simp only [Array.toList_setIfInBounds]
         exact touch_cells (by omega) hmp.out.2 ⟨line,write⟩
       ·intro b hb hnb
        exact hfar b (hF b hb) fun e=>hnb (e ▸ hgG)
       ·refine ⟨?_,?_,?_,?_,fun b hb hnb=>hfar b hb fun e=>hnb (e ▸ hgF)⟩
        ·exact hgr3.os.trans bx.os
        ·exact hgr3.tape.trans bx.tape
        ·exact hgr3.output.trans bx.output
        ·have h1:=hgr3.size
         have h2:=bx.size
         simp at h1⊢
         omega
      ·have hq1:IntKind.i64.wrap ((k:Int)+1)=(k:Int)+1:=IntWalk.i64_in _ (by omega)
       have hq2:(0:Int)≤(k:Int)+1:=by omega
       have hq3:((k:Int)+1).toNat=k+1:=by omega
       have hq4:max ((k:Int)+1) 0=(k:Int)+1:=by omega
       have hq5:(1:Int)≤(k:Int)+1:=by omega
       go_wp2_with fail
       go_region_held3 (fun _=>True) (trivial) ((refine step_copy_grown ?_ (.tmp 50) (.tmp 53) 114 114 ?_ 122 2 Tryd.underlying114 (by kernel_rfl) g' 2 k (c' - 1) ⟨g',0,none⟩ k c' k ?_ ?_ cur 122 ?_ ((ws.take k).flatMap TWay.cells) ?_ ?_ ?_ ?_ (one_way _) ?_;rfl;rfl;rfl;rfl;exact byH;simp;exact HlA.out;exact (fun j u hu=>HlB.out _ j u hu byH);exact HlC.out;intro w3 hg3 hgr3))
       clear hq1 hq2 hq3 hq4 hq5
       have qd3:w3.heap[w1.heap.size]?=some (.cells #[.int .i64 line,.bool write] 122):=(hgr3.block _ (by simpa using zz) (by intro e;injection e with e;omega)).trans byH
       obtain ⟨cd,fd,zd⟩:=blk qd3
       obtain ⟨cg,fg,zg⟩:=blk hg3.out
       have hspl:=length_splice cur.toList 2 ((ws.take k).flatMap TWay.cells) (by simpa using HlC.out)
       have hsz3:2≤(splice cur.toList 2 ((ws.take k).flatMap TWay.cells)).length:=by rw [hspl];simp;omega
       have hcg0:(w3.cell? ⟨g',0,none⟩).isSome=true:=by rw [cg 0,List.getElem?_toArray,List.getElem?_eq_getElem (by omega)];rfl
       have hcg1:(w3.cell? ⟨g',1,none⟩).isSome=true:=by rw [cg 1,List.getElem?_toArray,List.getElem?_eq_getElem (by omega)];rfl
       obtain ⟨x0,hx0⟩:=Option.isSome_iff_exists.1 hcg0
       obtain ⟨x1,hx1⟩:=Option.isSome_iff_exists.1 hcg1
       have k3:∀b,b < w.heap.size→b≠g'→w3.heap[b]?=w.heap[b]?:=fun b hb hne=>(hgr3.block b (by simp;omega) (by intro e;injection e with e;exact hne e)).trans (kp b hb)
       have K3:=zH k3
       have HSP:=zH hspl
       clear k3 cg hcg0 hcg1 hspl
       go_wp2_with fail
       go_ret
       rw [HS.out,HCo.out]
       have HLen:(⟨line,write⟩::ws.eraseIdx k:List TWay).length=ws.length:=by rw [List.length_cons,List.length_eraseIdx,if_pos (by omega)];omega
       have hheap:=heap_set_same (i:=1) (u:= .bool write) (heap_set_same (i:=0) (u:= .int .i64 line) hg3.out)
       have hcsz2:=HX.out.2.1
       have hfar:∀b,b < w.heap.size→b≠g'→((w3.setCell ⟨g',0,none⟩ (.int .i64 line)).setCell ⟨g',1,none⟩ (.bool write)).heap[b]?=w.heap[b]?:=fun b hb hne=>(Below.heap_setCell _ _ _ _ hne).trans ((Below.heap_setCell _ _ _ _ hne).trans (K3.out b hb hne))
       refine ⟨rfl,hmp.out.1 _ _ ⟨_,rfl,osl_flat.2 ⟨?_,HX.out.2.2.2.2⟩⟩ ?_,?_⟩
       ·rw [HLen]
        refine ⟨by rw [flatMap_len (k:=2) (f:=TWay.cells) (fun _=>rfl),HLen],.inr ⟨g',c',_,rfl,Nat.zero_le _,hheap,hn,hmx,?_,?_⟩⟩
        ·simp only [Array.size_setIfInBounds,List.size_toArray,HSP.out];simpa using hcsz2
        ·simp only [Array.toList_setIfInBounds]
         exact touch_cells (by omega) hmp.out.2 ⟨line,write⟩
       ·intro b hb hnb
        exact hfar b (hF b hb) fun e=>hnb (e ▸ hgG)
       ·refine ⟨?_,?_,?_,?_,fun b hb hnb=>hfar b hb fun e=>hnb (e ▸ hgF)⟩
        ·exact hgr3.os.trans bx.os
        ·exact hgr3.tape.trans bx.tape
        ·exact hgr3.output.trans bx.output
        ·have h1:=hgr3.size
         have h2:=bx.size
         simp at h1⊢
         omega
end Go.Proofs.YtinlmkhlgclbfabDoor
