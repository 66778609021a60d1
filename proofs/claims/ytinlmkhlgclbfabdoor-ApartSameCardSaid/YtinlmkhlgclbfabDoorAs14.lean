/- KeepE -/
import Derived.Test.YtinlmkhlgclbfabDoorAs13
import Derived.RangeFuncCalls
import Derived.RangeFuncLeaves
import Derived.Shelf.Abstract
import Derived.Shelf.RegionOpen
import Derived.OwnWalkIn
import Derived.TacticsInMore
import Derived.LoopNIn
import Derived.LoopIn
namespace Go.Proofs.YtinlmkhlgclbfabDoor
open Go.RowKit Go.Shelf
attribute [local go_sem] Oper.semAt_some
set_option maxRecDepth 100000
set_option maxHeartbeats 4000000
def mineTo (c:TCfg) (m:Int) (i:Nat):List Nat:=(List.range i).filter (fun j=>decide ((nth c.tasks j).dom=m))
theorem mineTo_len (c:TCfg)(m:Int)(i:Nat):(mineTo c m i).length≤i:=by
 unfold mineTo
 exact Nat.le_trans (List.length_filter_le _ _) (by simp)
theorem mineTo_hit {c:TCfg}{m:Int}{i:Nat}(h:(nth c.tasks i).dom=m):mineTo c m (i+1)=mineTo c m i++[i]:=by
 unfold mineTo;rw [List.range_succ,List.filter_append];simp [h]
theorem mineTo_miss {c:TCfg}{m:Int}{i:Nat}(h:(nth c.tasks i).dom≠m):mineTo c m (i+1)=mineTo c m i:=by
 unfold mineTo;rw [List.range_succ,List.filter_append];simp [h]
theorem mineIt (n:Nat)(hn:2≤n)(gk B:Nat)(c:TCfg)(S:TCfgS)(m:Int)(h6:c.tasks.length≤6):
  IterB Fence.wide n Tryd.prog 80 #[.pointer (some ⟨gk,0,none⟩)] (fun i:Nat=>#[.int .i64 i]) (fun i=>i < c.tasks.length∧(nth c.tasks i).dom=m) (fun W=>∃G d T,Kp gk G B W c S m d T) (fun xs=>xs=mineTo c m c.tasks.length) c.tasks.length:=by
 intro l0 J W hRd hext hY h0
 obtain ⟨G0,d0,T0,hK⟩:=hRd _ _ h0
 have hb:=hK.blk
 obtain ⟨cb,fb,zb⟩:=blk hb
 refine callsIn_of_wp_marks Tryd.func80 rfl trivial ?_ rfl
 simp only [Tryd.ntmps80,List.size_toArray,List.length_cons,List.length_nil,Nat.reduceAdd,Nat.reduceSub,Array.replicate_succ,Array.replicate_zero,List.push_toArray,List.append_toArray,List.nil_append,List.cons_append]
 gi_wp2
 clear cb fb
 gi_loopw [12] (fun iv wr=>∃i:Nat,i≤c.tasks.length∧iv= .int .i64 i∧J (mineTo c m i) wr) (fun iv wr=>(c.tasks.length - intOf iv).toNat)
 case atStart=>exact ⟨0,Nat.zero_le _,rfl,h0⟩
 case round=>
  obtain ⟨i,hi,rfl,hJ⟩:=hrel
  obtain ⟨G,d,T,hK⟩:=hRd _ _ hJ
  by_cases hlt:i < c.tasks.length
  ·obtain ⟨b,o,e1,hI,k0,k1,k2,k3⟩:=hK.cfg.s3.at_task hlt
   have hb:=hK.blk
   rw [e1] at hb
   rw [e1]
   clear e1
   obtain ⟨cb,fb,zb⟩:=blk hb
   have hil:(i:Int) < c.tasks.length:=by omega
   have hi0:(0:Int)≤i:=by omega
   gi_wp2
   generalize hW:wr.alloc (.cells #[.int .i64 (nth c.tasks i).dom,.int .i64 (nth c.tasks i).period,.int .i64 (nth c.tasks i).budget,.int .i64 (nth c.tasks i).dead] 83)=W1
   have hbx:W1.heap[wr.heap.size]?=some (.cells #[.int .i64 (nth c.tasks i).dom,.int .i64 (nth c.tasks i).period,.int .i64 (nth c.tasks i).budget,.int .i64 (nth c.tasks i).dead] 83):=by rw [← hW];exact heapAt _ _ _ rfl
   have hbr1:Below wr.heap.size wr W1:=(by rw [← hW];exact byB)
   have hb1:=(hbr1.block gk zb).trans hb
   have hJ1:=hext _ _ _ hJ hbr1.drew
   obtain ⟨cx,fx,zx⟩:=blk hbx
   obtain ⟨cy,fy,zy⟩:=blk hb1
   replace hW:=zH hW
   by_cases hdm:(nth c.tasks i).dom=m
   ·have hlen:(mineTo c m i).length < c.tasks.length:=Nat.lt_of_le_of_lt (mineTo_len c m i) hlt
    rw [hdm] at hbx
    rw [hdm]
    clear cx fx zx
    obtain ⟨cx,fx,zx⟩:=blk hbx
    clear k0 k1 k2 k3
    obtain ⟨fn,tmps,assign,body,hy,hRy⟩:=hY (mineTo c m i) i W1.drew ⟨hlt,hdm⟩ hJ1 hlen
    refine wpIn_region_inv [17,18,19,20,21,22,23,24,25,26,27,28,29] (fun l f W=>(l.size=13∧(¬ Lst l 10→W=W1.drew))∧(Lst l 0→f 17= .pointer (some ⟨wr.heap.size,0,none⟩))∧(Lst l 1→f 18= .int .i64 m)∧(Lst l 2→f 19= .pointer (some ⟨gk,0,none⟩))∧(Lst l 3→f 20= .pointer (some ⟨gk,0,none⟩))∧(Lst l 4→f 21= .pointer (some ⟨gk,9,none⟩))∧(Lst l 5→f 22= .int .i64 m)∧(Lst l 6→(Lst l 1∧Lst l 5)∧f 23= .bool true)∧(Lst l 7→(Lst l 1∧Lst l 5)∧f 24= .bool true)∧(Lst l 8→f 25= .func (.yield l0) #[] #[])∧(Lst l 9→f 26= .int .i64 i)∧(Lst l 10→Lst l 1∧Lst l 5∧f 27= .bool true∧J (mineTo c m i++[i]) W)∧(Lst l 11→f 28= .bool false)∧(Lst l 12→f 29= .bool false)) (by kernel_rfl) (by decide) (by kernel_rfl) (by intro s hs;simp at hs⊢;omega) ?_ ?_ ?_
    ·intro l hz hl
     exact ⟨⟨hz,fun _=>rfl⟩,fun h=>(hl 0 h).elim,fun h=>(hl 1 h).elim,fun h=>(hl 2 h).elim,fun h=>(hl 3 h).elim,fun h=>(hl 4 h).elim,fun h=>(hl 5 h).elim,fun h=>(hl 6 h).elim,fun h=>(hl 7 h).elim,fun h=>(hl 8 h).elim,fun h=>(hl 9 h).elim,fun h=>(hl 10 h).elim,fun h=>(hl 11 h).elim,fun h=>(hl 12 h).elim⟩
    ·refine StepsF.cons 1 rfl (StepF.plain [] (by kernel_rfl) rfl (by intro d hd;injection hd with hd;subst hd;decide) (fun l f W hR hn hb K hK=>?_)) ?_
     ·have hS:=hR.1
      have h0:=zH (hR.2.1)
      have h1:=zH (hR.2.2.1)
      have h2:=zH (hR.2.2.2.1)
      have h3:=zH (hR.2.2.2.2.1)
      have h4:=zH (hR.2.2.2.2.2.1)
      have h5:=zH (hR.2.2.2.2.2.2.1)
      have h6:=zH (hR.2.2.2.2.2.2.2.1)
      have h7:=zH (hR.2.2.2.2.2.2.2.2.1)
      have h8:=zH (hR.2.2.2.2.2.2.2.2.2.1)
      have h9:=zH (hR.2.2.2.2.2.2.2.2.2.2.1)
      have h10:=zH (hR.2.2.2.2.2.2.2.2.2.2.2.1)
      have h11:=zH (hR.2.2.2.2.2.2.2.2.2.2.2.2.1)
      have h12:=zH (hR.2.2.2.2.2.2.2.2.2.2.2.2.2)
      clear hR
      clear hb
      refine ⟨?_⟩
      simp only [pfs] at hK⊢
      refine ⟨fun _ _=>trivial,?_⟩
      go_simp
      refine hK.out _ _ ⟨⟨by simpa using hS.1,fun h=>hS.2 (fun h2=>h h2.fwd)⟩,fun _=>rfl,fun hl=>(h1.out hl.b),fun hl=>(h2.out hl.b),fun hl=>(h3.out hl.b),fun hl=>(h4.out hl.b),fun hl=>(h5.out hl.b),fun hl=>⟨⟨(h6.out hl.b).1.1.fwd,(h6.out hl.b).1.2.fwd⟩,(h6.out hl.b).2⟩,fun hl=>⟨⟨(h7.out hl.b).1.1.fwd,(h7.out hl.b).1.2.fwd⟩,(h7.out hl.b).2⟩,fun hl=>(h8.out hl.b),fun hl=>(h9.out hl.b),fun hl=>⟨(h10.out hl.b).1.fwd,(h10.out hl.b).2.1.fwd,(h10.out hl.b).2.2⟩,fun hl=>(h11.out hl.b),fun hl=>(h12.out hl.b)⟩
     refine StepsF.cons 2 rfl (StepF.plain [0] (by kernel_rfl) rfl (by intro d hd;injection hd with hd;subst hd;decide) (fun l f W hR hn hb K hK=>?_)) ?_
     ·have hS:=hR.1
      have h0:=zH (hR.2.1)
      have h1:=zH (hR.2.2.1)
      have h2:=zH (hR.2.2.2.1)
      have h3:=zH (hR.2.2.2.2.1)
      have h4:=zH (hR.2.2.2.2.2.1)
      have h5:=zH (hR.2.2.2.2.2.2.1)
      have h6:=zH (hR.2.2.2.2.2.2.2.1)
      have h7:=zH (hR.2.2.2.2.2.2.2.2.1)
      have h8:=zH (hR.2.2.2.2.2.2.2.2.2.1)
      have h9:=zH (hR.2.2.2.2.2.2.2.2.2.2.1)
      have h10:=zH (hR.2.2.2.2.2.2.2.2.2.2.2.1)
      have h11:=zH (hR.2.2.2.2.2.2.2.2.2.2.2.2.1)
      have h12:=zH (hR.2.2.2.2.2.2.2.2.2.2.2.2.2)
      clear hR
      have q0:=h0.out (hb 0 (by simp))
      clear hb
      refine ⟨?_⟩
      simp only [pfs] at hK⊢
      (try simp only [q0] at hK)
      obtain rfl:=hS.2 (fun h=>hn (h10.out h).1)
      have cx2:=cx
      have cy2:=cy
      refine ⟨fun _ _=>trivial,?_⟩
      go_simp
      refine hK.out _ _ ⟨⟨by simpa using hS.1,fun h=>hS.2 (fun h2=>h h2.fwd)⟩,fun hl=>(h0.out hl.b),fun _=>rfl,fun hl=>(h2.out hl.b),fun hl=>(h3.out hl.b),fun hl=>(h4.out hl.b),fun hl=>(h5.out hl.b),fun hl=>⟨⟨(h6.out hl.b).1.1.fwd,(h6.out hl.b).1.2.fwd⟩,(h6.out hl.b).2⟩,fun hl=>⟨⟨(h7.out hl.b).1.1.fwd,(h7.out hl.b).1.2.fwd⟩,(h7.out hl.b).2⟩,fun hl=>(h8.out hl.b),fun hl=>(h9.out hl.b),fun hl=>⟨(h10.out hl.b).1.fwd,(h10.out hl.b).2.1.fwd,(h10.out hl.b).2.2⟩,fun hl=>(h11.out hl.b),fun hl=>(h12.out hl.b)⟩
     refine StepsF.cons 3 rfl (StepF.plain [] (by kernel_rfl) rfl (by intro d hd;injection hd with hd;subst hd;decide) (fun l f W hR hn hb K hK=>?_)) ?_
     ·have hS:=hR.1
      have h0:=zH (hR.2.1)
      have h1:=zH (hR.2.2.1)
      have h2:=zH (hR.2.2.2.1)
      have h3:=zH (hR.2.2.2.2.1)
      have h4:=zH (hR.2.2.2.2.2.1)
      have h5:=zH (hR.2.2.2.2.2.2.1)
      have h6:=zH (hR.2.2.2.2.2.2.2.1)
      have h7:=zH (hR.2.2.2.2.2.2.2.2.1)
      have h8:=zH (hR.2.2.2.2.2.2.2.2.2.1)
      have h9:=zH (hR.2.2.2.2.2.2.2.2.2.2.1)
      have h10:=zH (hR.2.2.2.2.2.2.2.2.2.2.2.1)
      have h11:=zH (hR.2.2.2.2.2.2.2.2.2.2.2.2.1)
      have h12:=zH (hR.2.2.2.2.2.2.2.2.2.2.2.2.2)
      clear hR
      clear hb
      refine ⟨?_⟩
      simp only [pfs] at hK⊢
      refine ⟨fun _ _=>trivial,?_⟩
      go_simp
      refine hK.out _ _ ⟨⟨by simpa using hS.1,fun h=>hS.2 (fun h2=>h h2.fwd)⟩,fun hl=>(h0.out hl.b),fun hl=>(h1.out hl.b),fun _=>rfl,fun hl=>(h3.out hl.b),fun hl=>(h4.out hl.b),fun hl=>(h5.out hl.b),fun hl=>⟨⟨(h6.out hl.b).1.1.fwd,(h6.out hl.b).1.2.fwd⟩,(h6.out hl.b).2⟩,fun hl=>⟨⟨(h7.out hl.b).1.1.fwd,(h7.out hl.b).1.2.fwd⟩,(h7.out hl.b).2⟩,fun hl=>(h8.out hl.b),fun hl=>(h9.out hl.b),fun hl=>⟨(h10.out hl.b).1.fwd,(h10.out hl.b).2.1.fwd,(h10.out hl.b).2.2⟩,fun hl=>(h11.out hl.b),fun hl=>(h12.out hl.b)⟩
     refine StepsF.cons 4 rfl (StepF.plain [2] (by kernel_rfl) rfl (by intro d hd;injection hd with hd;subst hd;decide) (fun l f W hR hn hb K hK=>?_)) ?_
     ·have hS:=hR.1
      have h0:=zH (hR.2.1)
      have h1:=zH (hR.2.2.1)
      have h2:=zH (hR.2.2.2.1)
      have h3:=zH (hR.2.2.2.2.1)
      have h4:=zH (hR.2.2.2.2.2.1)
      have h5:=zH (hR.2.2.2.2.2.2.1)
      have h6:=zH (hR.2.2.2.2.2.2.2.1)
      have h7:=zH (hR.2.2.2.2.2.2.2.2.1)
      have h8:=zH (hR.2.2.2.2.2.2.2.2.2.1)
      have h9:=zH (hR.2.2.2.2.2.2.2.2.2.2.1)
      have h10:=zH (hR.2.2.2.2.2.2.2.2.2.2.2.1)
      have h11:=zH (hR.2.2.2.2.2.2.2.2.2.2.2.2.1)
      have h12:=zH (hR.2.2.2.2.2.2.2.2.2.2.2.2.2)
      clear hR
      have q2:=h2.out (hb 2 (by simp))
      clear hb
      refine ⟨?_⟩
      simp only [pfs] at hK⊢
      (try simp only [q2] at hK)
      refine ⟨fun _ _=>trivial,?_⟩
      go_simp
      refine hK.out _ _ ⟨⟨by simpa using hS.1,fun h=>hS.2 (fun h2=>h h2.fwd)⟩,fun hl=>(h0.out hl.b),fun hl=>(h1.out hl.b),fun hl=>(h2.out hl.b),fun _=>rfl,fun hl=>(h4.out hl.b),fun hl=>(h5.out hl.b),fun hl=>⟨⟨(h6.out hl.b).1.1.fwd,(h6.out hl.b).1.2.fwd⟩,(h6.out hl.b).2⟩,fun hl=>⟨⟨(h7.out hl.b).1.1.fwd,(h7.out hl.b).1.2.fwd⟩,(h7.out hl.b).2⟩,fun hl=>(h8.out hl.b),fun hl=>(h9.out hl.b),fun hl=>⟨(h10.out hl.b).1.fwd,(h10.out hl.b).2.1.fwd,(h10.out hl.b).2.2⟩,fun hl=>(h11.out hl.b),fun hl=>(h12.out hl.b)⟩
     refine StepsF.cons 5 rfl (StepF.plain [3] (by kernel_rfl) rfl (by intro d hd;injection hd with hd;subst hd;decide) (fun l f W hR hn hb K hK=>?_)) ?_
     ·have hS:=hR.1
      have h0:=zH (hR.2.1)
      have h1:=zH (hR.2.2.1)
      have h2:=zH (hR.2.2.2.1)
      have h3:=zH (hR.2.2.2.2.1)
      have h4:=zH (hR.2.2.2.2.2.1)
      have h5:=zH (hR.2.2.2.2.2.2.1)
      have h6:=zH (hR.2.2.2.2.2.2.2.1)
      have h7:=zH (hR.2.2.2.2.2.2.2.2.1)
      have h8:=zH (hR.2.2.2.2.2.2.2.2.2.1)
      have h9:=zH (hR.2.2.2.2.2.2.2.2.2.2.1)
      have h10:=zH (hR.2.2.2.2.2.2.2.2.2.2.2.1)
      have h11:=zH (hR.2.2.2.2.2.2.2.2.2.2.2.2.1)
      have h12:=zH (hR.2.2.2.2.2.2.2.2.2.2.2.2.2)
      clear hR
      have q3:=h3.out (hb 3 (by simp))
      clear hb
      refine ⟨?_⟩
      simp only [pfs] at hK⊢
      (try simp only [q3] at hK)
      refine ⟨fun _ _=>trivial,?_⟩
      go_simp
      refine hK.out _ _ ⟨⟨by simpa using hS.1,fun h=>hS.2 (fun h2=>h h2.fwd)⟩,fun hl=>(h0.out hl.b),fun hl=>(h1.out hl.b),fun hl=>(h2.out hl.b),fun hl=>(h3.out hl.b),fun _=>rfl,fun hl=>(h5.out hl.b),fun hl=>⟨⟨(h6.out hl.b).1.1.fwd,(h6.out hl.b).1.2.fwd⟩,(h6.out hl.b).2⟩,fun hl=>⟨⟨(h7.out hl.b).1.1.fwd,(h7.out hl.b).1.2.fwd⟩,(h7.out hl.b).2⟩,fun hl=>(h8.out hl.b),fun hl=>(h9.out hl.b),fun hl=>⟨(h10.out hl.b).1.fwd,(h10.out hl.b).2.1.fwd,(h10.out hl.b).2.2⟩,fun hl=>(h11.out hl.b),fun hl=>(h12.out hl.b)⟩
     refine StepsF.cons 6 rfl (StepF.plain [4] (by kernel_rfl) rfl (by intro d hd;injection hd with hd;subst hd;decide) (fun l f W hR hn hb K hK=>?_)) ?_
     ·have hS:=hR.1
      have h0:=zH (hR.2.1)
      have h1:=zH (hR.2.2.1)
      have h2:=zH (hR.2.2.2.1)
      have h3:=zH (hR.2.2.2.2.1)
      have h4:=zH (hR.2.2.2.2.2.1)
      have h5:=zH (hR.2.2.2.2.2.2.1)
      have h6:=zH (hR.2.2.2.2.2.2.2.1)
      have h7:=zH (hR.2.2.2.2.2.2.2.2.1)
      have h8:=zH (hR.2.2.2.2.2.2.2.2.2.1)
      have h9:=zH (hR.2.2.2.2.2.2.2.2.2.2.1)
      have h10:=zH (hR.2.2.2.2.2.2.2.2.2.2.2.1)
      have h11:=zH (hR.2.2.2.2.2.2.2.2.2.2.2.2.1)
      have h12:=zH (hR.2.2.2.2.2.2.2.2.2.2.2.2.2)
      clear hR
      have q4:=h4.out (hb 4 (by simp))
      clear hb
      refine ⟨?_⟩
      simp only [pfs] at hK⊢
      (try simp only [q4] at hK)
      obtain rfl:=hS.2 (fun h=>hn (h10.out h).2.1)
      have cx2:=cx
      have cy2:=cy
      refine ⟨fun _ _=>trivial,?_⟩
      go_simp
      refine hK.out _ _ ⟨⟨by simpa using hS.1,fun h=>hS.2 (fun h2=>h h2.fwd)⟩,fun hl=>(h0.out hl.b),fun hl=>(h1.out hl.b),fun hl=>(h2.out hl.b),fun hl=>(h3.out hl.b),fun hl=>(h4.out hl.b),fun _=>rfl,fun hl=>⟨⟨(h6.out hl.b).1.1.fwd,(h6.out hl.b).1.2.fwd⟩,(h6.out hl.b).2⟩,fun hl=>⟨⟨(h7.out hl.b).1.1.fwd,(h7.out hl.b).1.2.fwd⟩,(h7.out hl.b).2⟩,fun hl=>(h8.out hl.b),fun hl=>(h9.out hl.b),fun hl=>⟨(h10.out hl.b).1.fwd,(h10.out hl.b).2.1.fwd,(h10.out hl.b).2.2⟩,fun hl=>(h11.out hl.b),fun hl=>(h12.out hl.b)⟩
     refine StepsF.cons 7 rfl (StepF.plain [1,5] (by kernel_rfl) rfl (by intro d hd;injection hd with hd;subst hd;decide) (fun l f W hR hn hb K hK=>?_)) ?_
     ·have hS:=hR.1
      have h0:=zH (hR.2.1)
      have h1:=zH (hR.2.2.1)
      have h2:=zH (hR.2.2.2.1)
      have h3:=zH (hR.2.2.2.2.1)
      have h4:=zH (hR.2.2.2.2.2.1)
      have h5:=zH (hR.2.2.2.2.2.2.1)
      have h6:=zH (hR.2.2.2.2.2.2.2.1)
      have h7:=zH (hR.2.2.2.2.2.2.2.2.1)
      have h8:=zH (hR.2.2.2.2.2.2.2.2.2.1)
      have h9:=zH (hR.2.2.2.2.2.2.2.2.2.2.1)
      have h10:=zH (hR.2.2.2.2.2.2.2.2.2.2.2.1)
      have h11:=zH (hR.2.2.2.2.2.2.2.2.2.2.2.2.1)
      have h12:=zH (hR.2.2.2.2.2.2.2.2.2.2.2.2.2)
      clear hR
      have q1:=h1.out (hb 1 (by simp))
      have q5:=h5.out (hb 5 (by simp))
      have hb1:=hb 1 (by simp)
      have hb5:=hb 5 (by simp)
      have L1:=hb1
      have L5:=hb5
      clear hb
      refine ⟨?_⟩
      simp only [pfs] at hK⊢
      (try simp only [q1,q5] at hK)
      refine ⟨fun _ _=>trivial,?_⟩
      go_simp
      refine hK.out _ _ ⟨⟨by simpa using hS.1,fun h=>hS.2 (fun h2=>h h2.fwd)⟩,fun hl=>(h0.out hl.b),fun hl=>(h1.out hl.b),fun hl=>(h2.out hl.b),fun hl=>(h3.out hl.b),fun hl=>(h4.out hl.b),fun hl=>(h5.out hl.b),fun _=>⟨⟨L1.fwd,L5.fwd⟩,rfl⟩,fun hl=>⟨⟨(h7.out hl.b).1.1.fwd,(h7.out hl.b).1.2.fwd⟩,(h7.out hl.b).2⟩,fun hl=>(h8.out hl.b),fun hl=>(h9.out hl.b),fun hl=>⟨(h10.out hl.b).1.fwd,(h10.out hl.b).2.1.fwd,(h10.out hl.b).2.2⟩,fun hl=>(h11.out hl.b),fun hl=>(h12.out hl.b)⟩
     refine StepsF.cons 8 rfl (StepF.plain [6] (by kernel_rfl) rfl (by intro d hd;injection hd with hd;subst hd;decide) (fun l f W hR hn hb K hK=>?_)) ?_
     ·have hS:=hR.1
      have h0:=zH (hR.2.1)
      have h1:=zH (hR.2.2.1)
      have h2:=zH (hR.2.2.2.1)
      have h3:=zH (hR.2.2.2.2.1)
      have h4:=zH (hR.2.2.2.2.2.1)
      have h5:=zH (hR.2.2.2.2.2.2.1)
      have h6:=zH (hR.2.2.2.2.2.2.2.1)
      have h7:=zH (hR.2.2.2.2.2.2.2.2.1)
      have h8:=zH (hR.2.2.2.2.2.2.2.2.2.1)
      have h9:=zH (hR.2.2.2.2.2.2.2.2.2.2.1)
      have h10:=zH (hR.2.2.2.2.2.2.2.2.2.2.2.1)
      have h11:=zH (hR.2.2.2.2.2.2.2.2.2.2.2.2.1)
      have h12:=zH (hR.2.2.2.2.2.2.2.2.2.2.2.2.2)
      clear hR
      have q6:=h6.out (hb 6 (by simp))
      have L1:=q6.1.1
      have L5:=q6.1.2
      replace q6:=q6.2
      clear hb
      refine ⟨?_⟩
      simp only [pfs] at hK⊢
      (try simp only [q6] at hK)
      refine ⟨fun _ _=>trivial,?_⟩
      go_simp
      refine hK.out _ _ ⟨⟨by simpa using hS.1,fun h=>hS.2 (fun h2=>h h2.fwd)⟩,fun hl=>(h0.out hl.b),fun hl=>(h1.out hl.b),fun hl=>(h2.out hl.b),fun hl=>(h3.out hl.b),fun hl=>(h4.out hl.b),fun hl=>(h5.out hl.b),fun hl=>⟨⟨(h6.out hl.b).1.1.fwd,(h6.out hl.b).1.2.fwd⟩,(h6.out hl.b).2⟩,fun _=>⟨⟨L1.fwd,L5.fwd⟩,rfl⟩,fun hl=>(h8.out hl.b),fun hl=>(h9.out hl.b),fun hl=>⟨(h10.out hl.b).1.fwd,(h10.out hl.b).2.1.fwd,(h10.out hl.b).2.2⟩,fun hl=>(h11.out hl.b),fun hl=>(h12.out hl.b)⟩
     refine StepsF.cons 9 rfl (StepF.wanted [7] (by kernel_rfl) (by intro d hd;injection hd with hd;subst hd;decide) (fun l f W hR hn hb=>⟨?_,fun K hK=>?_⟩)) ?_
     ·obtain ⟨f7⟩:Nonempty (f 24= .bool true):=⟨(hR.2.2.2.2.2.2.2.2.1 (hb 7 (by simp))).2⟩;simp [Region.wanted,yielded,putF,Act.put,f7]
     ·have hS:=hR.1
      have h0:=zH (hR.2.1)
      have h1:=zH (hR.2.2.1)
      have h2:=zH (hR.2.2.2.1)
      have h3:=zH (hR.2.2.2.2.1)
      have h4:=zH (hR.2.2.2.2.2.1)
      have h5:=zH (hR.2.2.2.2.2.2.1)
      have h6:=zH (hR.2.2.2.2.2.2.2.1)
      have h7:=zH (hR.2.2.2.2.2.2.2.2.1)
      have h8:=zH (hR.2.2.2.2.2.2.2.2.2.1)
      have h9:=zH (hR.2.2.2.2.2.2.2.2.2.2.1)
      have h10:=zH (hR.2.2.2.2.2.2.2.2.2.2.2.1)
      have h11:=zH (hR.2.2.2.2.2.2.2.2.2.2.2.2.1)
      have h12:=zH (hR.2.2.2.2.2.2.2.2.2.2.2.2.2)
      clear hR
      have q7:=h7.out (hb 7 (by simp))
      replace q7:=zH q7
      clear hb
      refine ⟨?_⟩
      simp only [pfs] at hK⊢
      refine ⟨fun _ _=>trivial,?_⟩
      go_simp
      refine hK.out _ _ ⟨⟨by simpa using hS.1,fun h=>hS.2 (fun h2=>h h2.fwd)⟩,fun hl=>(h0.out hl.b),fun hl=>(h1.out hl.b),fun hl=>(h2.out hl.b),fun hl=>(h3.out hl.b),fun hl=>(h4.out hl.b),fun hl=>(h5.out hl.b),fun hl=>⟨⟨(h6.out hl.b).1.1.fwd,(h6.out hl.b).1.2.fwd⟩,(h6.out hl.b).2⟩,fun hl=>⟨⟨(h7.out hl.b).1.1.fwd,(h7.out hl.b).1.2.fwd⟩,(h7.out hl.b).2⟩,fun _=>rfl,fun hl=>(h9.out hl.b),fun hl=>⟨(h10.out hl.b).1.fwd,(h10.out hl.b).2.1.fwd,(h10.out hl.b).2.2⟩,fun hl=>(h11.out hl.b),fun hl=>(h12.out hl.b)⟩
     refine StepsF.cons 10 rfl (StepF.wanted [7] (by kernel_rfl) (by intro d hd;injection hd with hd;subst hd;decide) (fun l f W hR hn hb=>⟨?_,fun K hK=>?_⟩)) ?_
     ·obtain ⟨f7⟩:Nonempty (f 24= .bool true):=⟨(hR.2.2.2.2.2.2.2.2.1 (hb 7 (by simp))).2⟩;simp [Region.wanted,yielded,putF,Act.put,f7]
     ·have hS:=hR.1
      have h0:=zH (hR.2.1)
      have h1:=zH (hR.2.2.1)
      have h2:=zH (hR.2.2.2.1)
      have h3:=zH (hR.2.2.2.2.1)
      have h4:=zH (hR.2.2.2.2.2.1)
      have h5:=zH (hR.2.2.2.2.2.2.1)
      have h6:=zH (hR.2.2.2.2.2.2.2.1)
      have h7:=zH (hR.2.2.2.2.2.2.2.2.1)
      have h8:=zH (hR.2.2.2.2.2.2.2.2.2.1)
      have h9:=zH (hR.2.2.2.2.2.2.2.2.2.2.1)
      have h10:=zH (hR.2.2.2.2.2.2.2.2.2.2.2.1)
      have h11:=zH (hR.2.2.2.2.2.2.2.2.2.2.2.2.1)
      have h12:=zH (hR.2.2.2.2.2.2.2.2.2.2.2.2.2)
      clear hR
      have q7:=h7.out (hb 7 (by simp))
      replace q7:=zH q7
      clear hb
      refine ⟨?_⟩
      simp only [pfs] at hK⊢
      refine ⟨fun _ _=>trivial,?_⟩
      go_simp
      refine hK.out _ _ ⟨⟨by simpa using hS.1,fun h=>hS.2 (fun h2=>h h2.fwd)⟩,fun hl=>(h0.out hl.b),fun hl=>(h1.out hl.b),fun hl=>(h2.out hl.b),fun hl=>(h3.out hl.b),fun hl=>(h4.out hl.b),fun hl=>(h5.out hl.b),fun hl=>⟨⟨(h6.out hl.b).1.1.fwd,(h6.out hl.b).1.2.fwd⟩,(h6.out hl.b).2⟩,fun hl=>⟨⟨(h7.out hl.b).1.1.fwd,(h7.out hl.b).1.2.fwd⟩,(h7.out hl.b).2⟩,fun hl=>(h8.out hl.b),fun _=>rfl,fun hl=>⟨(h10.out hl.b).1.fwd,(h10.out hl.b).2.1.fwd,(h10.out hl.b).2.2⟩,fun hl=>(h11.out hl.b),fun hl=>(h12.out hl.b)⟩
     refine StepsF.cons 11 rfl (StepF.wanted [8,9,7,7] (by kernel_rfl) (by intro d hd;injection hd with hd;subst hd;decide) (fun l f W hR hn hb=>⟨?_,fun K hK=>?_⟩)) ?_
     ·obtain ⟨f7⟩:Nonempty (f 24= .bool true):=⟨(hR.2.2.2.2.2.2.2.2.1 (hb 7 (by simp))).2⟩;simp [Region.wanted,yielded,putF,Act.put,f7]
     ·have hS:=hR.1
      have h0:=zH (hR.2.1)
      have h1:=zH (hR.2.2.1)
      have h2:=zH (hR.2.2.2.1)
      have h3:=zH (hR.2.2.2.2.1)
      have h4:=zH (hR.2.2.2.2.2.1)
      have h5:=zH (hR.2.2.2.2.2.2.1)
      have h6:=zH (hR.2.2.2.2.2.2.2.1)
      have h7:=zH (hR.2.2.2.2.2.2.2.2.1)
      have h8:=zH (hR.2.2.2.2.2.2.2.2.2.1)
      have h9:=zH (hR.2.2.2.2.2.2.2.2.2.2.1)
      have h10:=zH (hR.2.2.2.2.2.2.2.2.2.2.2.1)
      have h11:=zH (hR.2.2.2.2.2.2.2.2.2.2.2.2.1)
      have h12:=zH (hR.2.2.2.2.2.2.2.2.2.2.2.2.2)
      clear hR
      have q7:=h7.out (hb 7 (by simp))
      have q8:=h8.out (hb 8 (by simp))
      have q9:=h9.out (hb 9 (by simp))
      have L1:=q7.1.1
      have L5:=q7.1.2
      replace q7:=q7.2
      obtain rfl:=hS.2 hn
      clear hb
      refine ⟨?_⟩
      simp only [pfs] at hK⊢
      (try simp only [q8,q9,q7] at hK)
      refine ⟨fun _ _=>trivial,?_⟩
      go_simp
      refine ⟨fun _=>by omega,hRy.mono ?_⟩
      rintro e w3 ⟨rfl,hJ3⟩
      dsimp only
      refine hK.out _ _ ⟨⟨by simpa using hS.1,fun h=>absurd (Lst.self (by rw [hS.1];omega)) h⟩,fun hl=>(h0.out hl.b),fun hl=>(h1.out hl.b),fun hl=>(h2.out hl.b),fun hl=>(h3.out hl.b),fun hl=>(h4.out hl.b),fun hl=>(h5.out hl.b),fun hl=>⟨⟨(h6.out hl.b).1.1.fwd,(h6.out hl.b).1.2.fwd⟩,(h6.out hl.b).2⟩,fun hl=>⟨⟨(h7.out hl.b).1.1.fwd,(h7.out hl.b).1.2.fwd⟩,(h7.out hl.b).2⟩,fun hl=>(h8.out hl.b),fun hl=>(h9.out hl.b),fun _=>⟨L1.fwd,L5.fwd,rfl,hJ3⟩,fun hl=>(h11.out hl.b),fun hl=>(h12.out hl.b)⟩
     refine StepsF.cons 12 rfl (StepF.wanted [10,7] (by kernel_rfl) (by intro d hd;injection hd with hd;subst hd;decide) (fun l f W hR hn hb=>⟨?_,fun K hK=>?_⟩)) ?_
     ·obtain ⟨f7⟩:Nonempty (f 24= .bool true):=⟨(hR.2.2.2.2.2.2.2.2.1 (hb 7 (by simp))).2⟩;simp [Region.wanted,yielded,putF,Act.put,f7]
     ·have hS:=hR.1
      have h0:=zH (hR.2.1)
      have h1:=zH (hR.2.2.1)
      have h2:=zH (hR.2.2.2.1)
      have h3:=zH (hR.2.2.2.2.1)
      have h4:=zH (hR.2.2.2.2.2.1)
      have h5:=zH (hR.2.2.2.2.2.2.1)
      have h6:=zH (hR.2.2.2.2.2.2.2.1)
      have h7:=zH (hR.2.2.2.2.2.2.2.2.1)
      have h8:=zH (hR.2.2.2.2.2.2.2.2.2.1)
      have h9:=zH (hR.2.2.2.2.2.2.2.2.2.2.1)
      have h10:=zH (hR.2.2.2.2.2.2.2.2.2.2.2.1)
      have h11:=zH (hR.2.2.2.2.2.2.2.2.2.2.2.2.1)
      have h12:=zH (hR.2.2.2.2.2.2.2.2.2.2.2.2.2)
      clear hR
      have q7:=h7.out (hb 7 (by simp))
      have q10:=h10.out (hb 10 (by simp))
      replace q10:=q10.2.2.1
      replace q7:=zH q7
      clear hb
      refine ⟨?_⟩
      simp only [pfs] at hK⊢
      (try simp only [q10] at hK)
      refine ⟨fun _ _=>trivial,?_⟩
      go_simp
      refine hK.out _ _ ⟨⟨by simpa using hS.1,fun h=>hS.2 (fun h2=>h h2.fwd)⟩,fun hl=>(h0.out hl.b),fun hl=>(h1.out hl.b),fun hl=>(h2.out hl.b),fun hl=>(h3.out hl.b),fun hl=>(h4.out hl.b),fun hl=>(h5.out hl.b),fun hl=>⟨⟨(h6.out hl.b).1.1.fwd,(h6.out hl.b).1.2.fwd⟩,(h6.out hl.b).2⟩,fun hl=>⟨⟨(h7.out hl.b).1.1.fwd,(h7.out hl.b).1.2.fwd⟩,(h7.out hl.b).2⟩,fun hl=>(h8.out hl.b),fun hl=>(h9.out hl.b),fun hl=>⟨(h10.out hl.b).1.fwd,(h10.out hl.b).2.1.fwd,(h10.out hl.b).2.2⟩,fun _=>rfl,fun hl=>(h12.out hl.b)⟩
     refine StepsF.cons 13 rfl (StepF.plain [7,11] (by kernel_rfl) rfl (by intro d hd;injection hd with hd;subst hd;decide) (fun l f W hR hn hb K hK=>?_)) ?_
     ·have hS:=hR.1
      have h0:=zH (hR.2.1)
      have h1:=zH (hR.2.2.1)
      have h2:=zH (hR.2.2.2.1)
      have h3:=zH (hR.2.2.2.2.1)
      have h4:=zH (hR.2.2.2.2.2.1)
      have h5:=zH (hR.2.2.2.2.2.2.1)
      have h6:=zH (hR.2.2.2.2.2.2.2.1)
      have h7:=zH (hR.2.2.2.2.2.2.2.2.1)
      have h8:=zH (hR.2.2.2.2.2.2.2.2.2.1)
      have h9:=zH (hR.2.2.2.2.2.2.2.2.2.2.1)
      have h10:=zH (hR.2.2.2.2.2.2.2.2.2.2.2.1)
      have h11:=zH (hR.2.2.2.2.2.2.2.2.2.2.2.2.1)
      have h12:=zH (hR.2.2.2.2.2.2.2.2.2.2.2.2.2)
      clear hR
      have q7:=h7.out (hb 7 (by simp))
      have q11:=h11.out (hb 11 (by simp))
      replace q7:=q7.2
      clear hb
      refine ⟨?_⟩
      simp only [pfs] at hK⊢
      (try simp only [q11,q7] at hK)
      refine ⟨fun _ _=>trivial,?_⟩
      go_simp
      refine hK.out _ _ ⟨⟨by simpa using hS.1,fun h=>hS.2 (fun h2=>h h2.fwd)⟩,fun hl=>(h0.out hl.b),fun hl=>(h1.out hl.b),fun hl=>(h2.out hl.b),fun hl=>(h3.out hl.b),fun hl=>(h4.out hl.b),fun hl=>(h5.out hl.b),fun hl=>⟨⟨(h6.out hl.b).1.1.fwd,(h6.out hl.b).1.2.fwd⟩,(h6.out hl.b).2⟩,fun hl=>⟨⟨(h7.out hl.b).1.1.fwd,(h7.out hl.b).1.2.fwd⟩,(h7.out hl.b).2⟩,fun hl=>(h8.out hl.b),fun hl=>(h9.out hl.b),fun hl=>⟨(h10.out hl.b).1.fwd,(h10.out hl.b).2.1.fwd,(h10.out hl.b).2.2⟩,fun hl=>(h11.out hl.b),fun _=>rfl⟩
     exact StepsF.nil
    ·intro l f W hR hall
     have hS:=hR.1
     have q0:=hR.2.1 (hall 0 (by decide))
     have q1:=hR.2.2.1 (hall 1 (by decide))
     have q2:=hR.2.2.2.1 (hall 2 (by decide))
     have q3:=hR.2.2.2.2.1 (hall 3 (by decide))
     have q4:=hR.2.2.2.2.2.1 (hall 4 (by decide))
     have q5:=hR.2.2.2.2.2.2.1 (hall 5 (by decide))
     have q6:=hR.2.2.2.2.2.2.2.1 (hall 6 (by decide))
     have q7:=hR.2.2.2.2.2.2.2.2.1 (hall 7 (by decide))
     have q8:=hR.2.2.2.2.2.2.2.2.2.1 (hall 8 (by decide))
     have q9:=hR.2.2.2.2.2.2.2.2.2.2.1 (hall 9 (by decide))
     have q10:=hR.2.2.2.2.2.2.2.2.2.2.2.1 (hall 10 (by decide))
     have q11:=hR.2.2.2.2.2.2.2.2.2.2.2.2.1 (hall 11 (by decide))
     have q12:=hR.2.2.2.2.2.2.2.2.2.2.2.2.2 (hall 12 (by decide))
     clear hR
     obtain ⟨_,_,_,hJ3⟩:=q10
     simp only [pfs]
     simp only [q12]
     clear q0 q1 q2 q3 q4 q5 q6 q7 q8 q9 q11 q12 hall hS
     gi_wp2
     exact ⟨⟨i+1,by omega,by go_num,by rw [mineTo_hit hdm];exact hJ3⟩,by simp [intOf]<;>omega⟩
   ·have hdm0:=zH hdm
    generalize hDD:(nth c.tasks i).dom=DD at hbx hdm⊢
    replace hDD:=zH hDD
    clear cx fx zx
    obtain ⟨cx,fx,zx⟩:=blk hbx
    clear k0 k1 k2 k3
    refine wpIn_region_inv [17,18,19,20,21,22,23,24,25,26,27,28,29] (fun l f W=>(l.size=13∧W=W1.drew)∧(Lst l 0→f 17= .pointer (some ⟨wr.heap.size,0,none⟩))∧(Lst l 1→f 18= .int .i64 DD)∧(Lst l 2→f 19= .pointer (some ⟨gk,0,none⟩))∧(Lst l 3→f 20= .pointer (some ⟨gk,0,none⟩))∧(Lst l 4→f 21= .pointer (some ⟨gk,9,none⟩))∧(Lst l 5→f 22= .int .i64 m)∧(Lst l 6→f 23= .bool false)∧(Lst l 7→f 24= .bool false)∧(Lst l 12→f 29= .bool false)) (by kernel_rfl) (by decide) (by kernel_rfl) (by intro s hs;simp at hs⊢;omega) ?_ ?_ ?_
    ·intro l hz hl
     exact ⟨⟨hz,rfl⟩,fun h=>(hl 0 h).elim,fun h=>(hl 1 h).elim,fun h=>(hl 2 h).elim,fun h=>(hl 3 h).elim,fun h=>(hl 4 h).elim,fun h=>(hl 5 h).elim,fun h=>(hl 6 h).elim,fun h=>(hl 7 h).elim,fun h=>(hl 12 h).elim⟩
    ·refine StepsF.cons 1 rfl (StepF.plain [] (by kernel_rfl) rfl (by intro d hd;injection hd with hd;subst hd;decide) (fun l f W hR hn hb K hK=>?_)) ?_
     ·have hS:=hR.1
      have h0:=zH (hR.2.1)
      have h1:=zH (hR.2.2.1)
      have h2:=zH (hR.2.2.2.1)
      have h3:=zH (hR.2.2.2.2.1)
      have h4:=zH (hR.2.2.2.2.2.1)
      have h5:=zH (hR.2.2.2.2.2.2.1)
      have h6:=zH (hR.2.2.2.2.2.2.2.1)
      have h7:=zH (hR.2.2.2.2.2.2.2.2.1)
      have h12:=zH (hR.2.2.2.2.2.2.2.2.2)
      clear hR
      clear hb
      refine ⟨?_⟩
      simp only [pfs] at hK⊢
      refine ⟨fun _ _=>trivial,?_⟩
      go_simp
      refine hK.out _ _ ⟨⟨by simpa using hS.1,by first|exact hS.2|rfl⟩,fun _=>rfl,fun hl=>(h1.out hl.b),fun hl=>(h2.out hl.b),fun hl=>(h3.out hl.b),fun hl=>(h4.out hl.b),fun hl=>(h5.out hl.b),fun hl=>(h6.out hl.b),fun hl=>(h7.out hl.b),fun hl=>(h12.out hl.b)⟩
     refine StepsF.cons 2 rfl (StepF.plain [0] (by kernel_rfl) rfl (by intro d hd;injection hd with hd;subst hd;decide) (fun l f W hR hn hb K hK=>?_)) ?_
     ·have hS:=hR.1
      have h0:=zH (hR.2.1)
      have h1:=zH (hR.2.2.1)
      have h2:=zH (hR.2.2.2.1)
      have h3:=zH (hR.2.2.2.2.1)
      have h4:=zH (hR.2.2.2.2.2.1)
      have h5:=zH (hR.2.2.2.2.2.2.1)
      have h6:=zH (hR.2.2.2.2.2.2.2.1)
      have h7:=zH (hR.2.2.2.2.2.2.2.2.1)
      have h12:=zH (hR.2.2.2.2.2.2.2.2.2)
      clear hR
      have q0:=h0.out (hb 0 (by simp))
      clear hb
      refine ⟨?_⟩
      simp only [pfs] at hK⊢
      (try simp only [q0] at hK)
      obtain rfl:=hS.2
      have cx2:=cx
      have cy2:=cy
      refine ⟨fun _ _=>trivial,?_⟩
      go_simp
      refine hK.out _ _ ⟨⟨by simpa using hS.1,by first|exact hS.2|rfl⟩,fun hl=>(h0.out hl.b),fun _=>rfl,fun hl=>(h2.out hl.b),fun hl=>(h3.out hl.b),fun hl=>(h4.out hl.b),fun hl=>(h5.out hl.b),fun hl=>(h6.out hl.b),fun hl=>(h7.out hl.b),fun hl=>(h12.out hl.b)⟩
     refine StepsF.cons 3 rfl (StepF.plain [] (by kernel_rfl) rfl (by intro d hd;injection hd with hd;subst hd;decide) (fun l f W hR hn hb K hK=>?_)) ?_
     ·have hS:=hR.1
      have h0:=zH (hR.2.1)
      have h1:=zH (hR.2.2.1)
      have h2:=zH (hR.2.2.2.1)
      have h3:=zH (hR.2.2.2.2.1)
      have h4:=zH (hR.2.2.2.2.2.1)
      have h5:=zH (hR.2.2.2.2.2.2.1)
      have h6:=zH (hR.2.2.2.2.2.2.2.1)
      have h7:=zH (hR.2.2.2.2.2.2.2.2.1)
      have h12:=zH (hR.2.2.2.2.2.2.2.2.2)
      clear hR
      clear hb
      refine ⟨?_⟩
      simp only [pfs] at hK⊢
      refine ⟨fun _ _=>trivial,?_⟩
      go_simp
      refine hK.out _ _ ⟨⟨by simpa using hS.1,by first|exact hS.2|rfl⟩,fun hl=>(h0.out hl.b),fun hl=>(h1.out hl.b),fun _=>rfl,fun hl=>(h3.out hl.b),fun hl=>(h4.out hl.b),fun hl=>(h5.out hl.b),fun hl=>(h6.out hl.b),fun hl=>(h7.out hl.b),fun hl=>(h12.out hl.b)⟩
     refine StepsF.cons 4 rfl (StepF.plain [2] (by kernel_rfl) rfl (by intro d hd;injection hd with hd;subst hd;decide) (fun l f W hR hn hb K hK=>?_)) ?_
     ·have hS:=hR.1
      have h0:=zH (hR.2.1)
      have h1:=zH (hR.2.2.1)
      have h2:=zH (hR.2.2.2.1)
      have h3:=zH (hR.2.2.2.2.1)
      have h4:=zH (hR.2.2.2.2.2.1)
      have h5:=zH (hR.2.2.2.2.2.2.1)
      have h6:=zH (hR.2.2.2.2.2.2.2.1)
      have h7:=zH (hR.2.2.2.2.2.2.2.2.1)
      have h12:=zH (hR.2.2.2.2.2.2.2.2.2)
      clear hR
      have q2:=h2.out (hb 2 (by simp))
      clear hb
      refine ⟨?_⟩
      simp only [pfs] at hK⊢
      (try simp only [q2] at hK)
      refine ⟨fun _ _=>trivial,?_⟩
      go_simp
      refine hK.out _ _ ⟨⟨by simpa using hS.1,by first|exact hS.2|rfl⟩,fun hl=>(h0.out hl.b),fun hl=>(h1.out hl.b),fun hl=>(h2.out hl.b),fun _=>rfl,fun hl=>(h4.out hl.b),fun hl=>(h5.out hl.b),fun hl=>(h6.out hl.b),fun hl=>(h7.out hl.b),fun hl=>(h12.out hl.b)⟩
     refine StepsF.cons 5 rfl (StepF.plain [3] (by kernel_rfl) rfl (by intro d hd;injection hd with hd;subst hd;decide) (fun l f W hR hn hb K hK=>?_)) ?_
     ·have hS:=hR.1
      have h0:=zH (hR.2.1)
      have h1:=zH (hR.2.2.1)
      have h2:=zH (hR.2.2.2.1)
      have h3:=zH (hR.2.2.2.2.1)
      have h4:=zH (hR.2.2.2.2.2.1)
      have h5:=zH (hR.2.2.2.2.2.2.1)
      have h6:=zH (hR.2.2.2.2.2.2.2.1)
      have h7:=zH (hR.2.2.2.2.2.2.2.2.1)
      have h12:=zH (hR.2.2.2.2.2.2.2.2.2)
      clear hR
      have q3:=h3.out (hb 3 (by simp))
      clear hb
      refine ⟨?_⟩
      simp only [pfs] at hK⊢
      (try simp only [q3] at hK)
      refine ⟨fun _ _=>trivial,?_⟩
      go_simp
      refine hK.out _ _ ⟨⟨by simpa using hS.1,by first|exact hS.2|rfl⟩,fun hl=>(h0.out hl.b),fun hl=>(h1.out hl.b),fun hl=>(h2.out hl.b),fun hl=>(h3.out hl.b),fun _=>rfl,fun hl=>(h5.out hl.b),fun hl=>(h6.out hl.b),fun hl=>(h7.out hl.b),fun hl=>(h12.out hl.b)⟩
     refine StepsF.cons 6 rfl (StepF.plain [4] (by kernel_rfl) rfl (by intro d hd;injection hd with hd;subst hd;decide) (fun l f W hR hn hb K hK=>?_)) ?_
     ·have hS:=hR.1
      have h0:=zH (hR.2.1)
      have h1:=zH (hR.2.2.1)
      have h2:=zH (hR.2.2.2.1)
      have h3:=zH (hR.2.2.2.2.1)
      have h4:=zH (hR.2.2.2.2.2.1)
      have h5:=zH (hR.2.2.2.2.2.2.1)
      have h6:=zH (hR.2.2.2.2.2.2.2.1)
      have h7:=zH (hR.2.2.2.2.2.2.2.2.1)
      have h12:=zH (hR.2.2.2.2.2.2.2.2.2)
      clear hR
      have q4:=h4.out (hb 4 (by simp))
      clear hb
      refine ⟨?_⟩
      simp only [pfs] at hK⊢
      (try simp only [q4] at hK)
      obtain rfl:=hS.2
      have cx2:=cx
      have cy2:=cy
      refine ⟨fun _ _=>trivial,?_⟩
      go_simp
      refine hK.out _ _ ⟨⟨by simpa using hS.1,by first|exact hS.2|rfl⟩,fun hl=>(h0.out hl.b),fun hl=>(h1.out hl.b),fun hl=>(h2.out hl.b),fun hl=>(h3.out hl.b),fun hl=>(h4.out hl.b),fun _=>rfl,fun hl=>(h6.out hl.b),fun hl=>(h7.out hl.b),fun hl=>(h12.out hl.b)⟩
     refine StepsF.cons 7 rfl (StepF.plain [1,5] (by kernel_rfl) rfl (by intro d hd;injection hd with hd;subst hd;decide) (fun l f W hR hn hb K hK=>?_)) ?_
     ·have hS:=hR.1
      have h0:=zH (hR.2.1)
      have h1:=zH (hR.2.2.1)
      have h2:=zH (hR.2.2.2.1)
      have h3:=zH (hR.2.2.2.2.1)
      have h4:=zH (hR.2.2.2.2.2.1)
      have h5:=zH (hR.2.2.2.2.2.2.1)
      have h6:=zH (hR.2.2.2.2.2.2.2.1)
      have h7:=zH (hR.2.2.2.2.2.2.2.2.1)
      have h12:=zH (hR.2.2.2.2.2.2.2.2.2)
      clear hR
      have q1:=h1.out (hb 1 (by simp))
      have q5:=h5.out (hb 5 (by simp))
      clear hb
      refine ⟨?_⟩
      simp only [pfs] at hK⊢
      (try simp only [q1,q5] at hK)
      refine ⟨fun _ _=>trivial,?_⟩
      go_simp
      refine hK.out _ _ ⟨⟨by simpa using hS.1,by first|exact hS.2|rfl⟩,fun hl=>(h0.out hl.b),fun hl=>(h1.out hl.b),fun hl=>(h2.out hl.b),fun hl=>(h3.out hl.b),fun hl=>(h4.out hl.b),fun hl=>(h5.out hl.b),fun _=>by simp [upd,hdm],fun hl=>(h7.out hl.b),fun hl=>(h12.out hl.b)⟩
     refine StepsF.cons 8 rfl (StepF.plain [6] (by kernel_rfl) rfl (by intro d hd;injection hd with hd;subst hd;decide) (fun l f W hR hn hb K hK=>?_)) ?_
     ·have hS:=hR.1
      have h0:=zH (hR.2.1)
      have h1:=zH (hR.2.2.1)
      have h2:=zH (hR.2.2.2.1)
      have h3:=zH (hR.2.2.2.2.1)
      have h4:=zH (hR.2.2.2.2.2.1)
      have h5:=zH (hR.2.2.2.2.2.2.1)
      have h6:=zH (hR.2.2.2.2.2.2.2.1)
      have h7:=zH (hR.2.2.2.2.2.2.2.2.1)
      have h12:=zH (hR.2.2.2.2.2.2.2.2.2)
      clear hR
      have q6:=h6.out (hb 6 (by simp))
      clear hb
      refine ⟨?_⟩
      simp only [pfs] at hK⊢
      (try simp only [q6] at hK)
      refine ⟨fun _ _=>trivial,?_⟩
      go_simp
      refine hK.out _ _ ⟨⟨by simpa using hS.1,by first|exact hS.2|rfl⟩,fun hl=>(h0.out hl.b),fun hl=>(h1.out hl.b),fun hl=>(h2.out hl.b),fun hl=>(h3.out hl.b),fun hl=>(h4.out hl.b),fun hl=>(h5.out hl.b),fun hl=>(h6.out hl.b),fun _=>rfl,fun hl=>(h12.out hl.b)⟩
     refine StepsF.cons 9 rfl (StepF.skipped [7] (by kernel_rfl) (by intro d hd;injection hd with hd;subst hd;decide) (fun _=>trivial) (fun l f W hR hn hb=>⟨?_,?_⟩)) ?_
     ·have f7:=hR.2.2.2.2.2.2.2.2.1 (hb 7 (by simp));simp [Region.wanted,yielded,putF,Act.put,f7]
     ·exact ⟨⟨by simpa using hR.1.1,hR.1.2⟩,fun hl=>hR.2.1 hl.b,fun hl=>hR.2.2.1 hl.b,fun hl=>hR.2.2.2.1 hl.b,fun hl=>hR.2.2.2.2.1 hl.b,fun hl=>hR.2.2.2.2.2.1 hl.b,fun hl=>hR.2.2.2.2.2.2.1 hl.b,fun hl=>hR.2.2.2.2.2.2.2.1 hl.b,fun hl=>hR.2.2.2.2.2.2.2.2.1 hl.b,fun hl=>hR.2.2.2.2.2.2.2.2.2 hl.b⟩
     refine StepsF.cons 10 rfl (StepF.skipped [7] (by kernel_rfl) (by intro d hd;injection hd with hd;subst hd;decide) (fun _=>trivial) (fun l f W hR hn hb=>⟨?_,?_⟩)) ?_
     ·have f7:=hR.2.2.2.2.2.2.2.2.1 (hb 7 (by simp));simp [Region.wanted,yielded,putF,Act.put,f7]
     ·exact ⟨⟨by simpa using hR.1.1,hR.1.2⟩,fun hl=>hR.2.1 hl.b,fun hl=>hR.2.2.1 hl.b,fun hl=>hR.2.2.2.1 hl.b,fun hl=>hR.2.2.2.2.1 hl.b,fun hl=>hR.2.2.2.2.2.1 hl.b,fun hl=>hR.2.2.2.2.2.2.1 hl.b,fun hl=>hR.2.2.2.2.2.2.2.1 hl.b,fun hl=>hR.2.2.2.2.2.2.2.2.1 hl.b,fun hl=>hR.2.2.2.2.2.2.2.2.2 hl.b⟩
     refine StepsF.cons 11 rfl (StepF.skipped [8,9,7,7] (by kernel_rfl) (by intro d hd;injection hd with hd;subst hd;decide) (fun _=>trivial) (fun l f W hR hn hb=>⟨?_,?_⟩)) ?_
     ·have f7:=hR.2.2.2.2.2.2.2.2.1 (hb 7 (by simp));simp [Region.wanted,yielded,putF,Act.put,f7]
     ·exact ⟨⟨by simpa using hR.1.1,hR.1.2⟩,fun hl=>hR.2.1 hl.b,fun hl=>hR.2.2.1 hl.b,fun hl=>hR.2.2.2.1 hl.b,fun hl=>hR.2.2.2.2.1 hl.b,fun hl=>hR.2.2.2.2.2.1 hl.b,fun hl=>hR.2.2.2.2.2.2.1 hl.b,fun hl=>hR.2.2.2.2.2.2.2.1 hl.b,fun hl=>hR.2.2.2.2.2.2.2.2.1 hl.b,fun hl=>hR.2.2.2.2.2.2.2.2.2 hl.b⟩
     refine StepsF.cons 12 rfl (StepF.skipped [10,7] (by kernel_rfl) (by intro d hd;injection hd with hd;subst hd;decide) (fun _=>trivial) (fun l f W hR hn hb=>⟨?_,?_⟩)) ?_
     ·have f7:=hR.2.2.2.2.2.2.2.2.1 (hb 7 (by simp));simp [Region.wanted,yielded,putF,Act.put,f7]
     ·exact ⟨⟨by simpa using hR.1.1,hR.1.2⟩,fun hl=>hR.2.1 hl.b,fun hl=>hR.2.2.1 hl.b,fun hl=>hR.2.2.2.1 hl.b,fun hl=>hR.2.2.2.2.1 hl.b,fun hl=>hR.2.2.2.2.2.1 hl.b,fun hl=>hR.2.2.2.2.2.2.1 hl.b,fun hl=>hR.2.2.2.2.2.2.2.1 hl.b,fun hl=>hR.2.2.2.2.2.2.2.2.1 hl.b,fun hl=>hR.2.2.2.2.2.2.2.2.2 hl.b⟩
     refine StepsF.cons 13 rfl (StepF.plain [7,11] (by kernel_rfl) rfl (by intro d hd;injection hd with hd;subst hd;decide) (fun l f W hR hn hb K hK=>?_)) ?_
     ·have hS:=hR.1
      have h0:=zH (hR.2.1)
      have h1:=zH (hR.2.2.1)
      have h2:=zH (hR.2.2.2.1)
      have h3:=zH (hR.2.2.2.2.1)
      have h4:=zH (hR.2.2.2.2.2.1)
      have h5:=zH (hR.2.2.2.2.2.2.1)
      have h6:=zH (hR.2.2.2.2.2.2.2.1)
      have h7:=zH (hR.2.2.2.2.2.2.2.2.1)
      have h12:=zH (hR.2.2.2.2.2.2.2.2.2)
      clear hR
      have q7:=h7.out (hb 7 (by simp))
      clear hb
      refine ⟨?_⟩
      simp only [pfs] at hK⊢
      (try simp only [q7] at hK)
      refine ⟨fun _ _=>trivial,?_⟩
      go_simp
      refine hK.out _ _ ⟨⟨by simpa using hS.1,by first|exact hS.2|rfl⟩,fun hl=>(h0.out hl.b),fun hl=>(h1.out hl.b),fun hl=>(h2.out hl.b),fun hl=>(h3.out hl.b),fun hl=>(h4.out hl.b),fun hl=>(h5.out hl.b),fun hl=>(h6.out hl.b),fun hl=>(h7.out hl.b),fun _=>rfl⟩
     exact StepsF.nil
    ·intro l f W hR hall
     have hS:=hR.1
     have q0:=hR.2.1 (hall 0 (by decide))
     have q1:=hR.2.2.1 (hall 1 (by decide))
     have q2:=hR.2.2.2.1 (hall 2 (by decide))
     have q3:=hR.2.2.2.2.1 (hall 3 (by decide))
     have q4:=hR.2.2.2.2.2.1 (hall 4 (by decide))
     have q5:=hR.2.2.2.2.2.2.1 (hall 5 (by decide))
     have q6:=hR.2.2.2.2.2.2.2.1 (hall 6 (by decide))
     have q7:=hR.2.2.2.2.2.2.2.2.1 (hall 7 (by decide))
     have q12:=hR.2.2.2.2.2.2.2.2.2 (hall 12 (by decide))
     clear hR
     obtain rfl:=hS.2
     simp only [pfs]
     simp only [q12]
     clear q0 q1 q2 q3 q4 q5 q6 q7 q12 hall hS
     gi_wp2
     exact ⟨⟨i+1,by omega,by go_num,by rw [mineTo_miss hdm0.out];exact hJ1⟩,by simp [intOf]<;>omega⟩
  ·obtain rfl:i=c.tasks.length:=by omega
   have hb:=hK.blk
   obtain ⟨cb,fb,zb⟩:=blk hb
   gi_wp2
   exact ⟨.tuple #[],by simp [results,Tryd.results80,go_sem]<;>rfl,⟨_,rfl⟩,_,rfl,hJ⟩
end Go.Proofs.YtinlmkhlgclbfabDoor
