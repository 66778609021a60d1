/- SlotI SlotR -/
import Derived.Test.YtinlmkhlgclbfabDoorAs36
section
namespace Go.Proofs.YtinlmkhlgclbfabDoor
open Go.RowKit Go.Shelf
attribute [local go_sem] Oper.semAt_some
set_option maxRecDepth 100000
set_option maxHeartbeats 1000000
def HasMach (B:Nat) (c:TCfg) (S:TCfgS) (sc:TScr) (Z:TScrS) (gm:Nat) (W:World):Prop:=∃ds last k F FL FK A n Al nl Ak nk,MachW B c S sc Z gm ds last k F FL FK A n Al nl Ak nk W
theorem slotsIt (n:Nat)(hn:2≤n)(gm B:Nat)(c:TCfg)(S:TCfgS)(sc:TScr)(Z:TScrS)(h:ScrOk c sc):
  IterB Fence.wide n Tryd.prog 34 #[.pointer (some ⟨gm,0,none⟩)] (fun i:Nat=>#[.int .i64 (slotNo c i:Nat),.int .i64 (slotAt c i)]) (fun i=>i < slotsIn c sc) (HasMach B c S sc Z gm) (fun xs=>xs=List.range (slotsIn c sc)) (slotsIn c sc):=by
 intro l0 J W hRd hext hY h0
 have hr8:=h.rounds
 have hn6:=h.cfg.nslots
 have hLN:slotsIn c sc=sc.rounds.toNat*c.slots.length:=rfl
 obtain ⟨ds,last,k,F,FL,FK,A,na,Al,nl,Ak,nk,hM⟩:=hRd _ _ h0
 have hb:=hM.blk
 obtain ⟨cb,fb,zb⟩:=blk hb
 refine callsIn_of_wp_marks Tryd.func34 rfl trivial ?_ rfl
 simp only [Tryd.ntmps34,List.size_toArray,List.length_cons,List.length_nil,Nat.reduceAdd,Nat.reduceSub,Array.replicate_succ,Array.replicate_zero,List.push_toArray,List.append_toArray,List.nil_append,List.cons_append]
 gi_wp2
 clear cb fb hb hM
 gi_loopw [11] (fun iv wr=>∃r:Nat,(r:Int)≤sc.rounds∧iv= .int .i64 r∧J (List.range (r*c.slots.length)) wr) (fun iv wr=>(sc.rounds - intOf iv).toNat)
 case atStart=>exact ⟨0,by omega,rfl,by simpa using h0⟩
 case round=>
  obtain ⟨r,hr,rfl,hJ⟩:=hrel
  obtain ⟨ds,last,k,F,FL,FK,A,na,Al,nl,Ak,nk,hM⟩:=hRd _ _ hJ
  have hb:=hM.blk
  obtain ⟨cb,fb,zb⟩:=blk hb
  by_cases hlt:(r:Int) < sc.rounds
  ·gi_wp2
   clear cb fb hb hM
   gi_loopw [20] (fun iv wq=>∃i:Nat,i≤c.slots.length∧iv= .int .i64 i∧J (List.range (r*c.slots.length+i)) wq) (fun iv wq=>(c.slots.length - intOf iv).toNat)
   case atStart=>exact ⟨0,Nat.zero_le _,rfl,hJ⟩
   case round=>
    obtain ⟨i,hi,rfl,hJ1⟩:=hrel
    obtain ⟨ds,last,k,F,FL,FK,A,na,Al,nl,Ak,nk,hM⟩:=hRd _ _ hJ1
    have hb:=hM.blk
    obtain ⟨cb,fb,zb1⟩:=blk hb
    by_cases hli:i < c.slots.length
    ·have hil:(i:Int) < c.slots.length:=by omega
     have i0:(0:Int)≤i:=by omega
     have HB:=turnBegins c S (r:Int) (i:Int) h.cfg ⟨by omega,by omega⟩ ⟨i0,hil⟩ B wr (by have:=hM.lo;omega) hM.cfg
     have hno:slotNo c (r*c.slots.length+i)=i:=by unfold slotNo;rw [Nat.mul_comm,Nat.mul_add_mod,Nat.mod_eq_of_lt hli]
     have hdv:(r*c.slots.length+i) / c.slots.length=r:=by rw [Nat.mul_comm,Nat.mul_add_div (by omega),Nat.div_eq_of_lt hli];omega
     have hat:slotAt c (r*c.slots.length+i)=startOf c (r:Int) (i:Int):=by unfold slotAt;rw [hdv,hno]
     have hlt2:r*c.slots.length+i < slotsIn c sc:=by
      rw [hLN]
      have h1:r+1≤sc.rounds.toNat:=by omega
      have h2:=Nat.mul_le_mul_right c.slots.length h1
      rw [Nat.add_mul] at h2
      omega
     clear hM
     gi_wp2_with fail
     refine ⟨trivial,fun _=>by omega,?_⟩
     gi_at_call 49
     refine (callsIn_wide.2 HB).mono ?_
     rintro e w2 ⟨rfl,hb2⟩
     have hJ2:=hext _ _ _ hJ1 hb2
     have hYY:=hY (List.range (r*c.slots.length+i)) (r*c.slots.length+i) w2 hlt2 hJ2 (by simpa using hlt2)
     simp only [hno,hat] at hYY
     obtain ⟨fn,tmps,assign,body,hy,hRy⟩:=hYY
     gi_wp2
     refine ⟨fun _=>by omega,hRy.mono ?_⟩
     rintro e w3 ⟨rfl,hJ3⟩
     rw [← List.range_succ] at hJ3
     clear hRy hy hJ2 hb2 HB hJ1
     gi_wp2
     refine ⟨⟨i+1,by omega,by go_num,hJ3⟩,by simp [intOf];omega⟩
    ·obtain rfl:i=c.slots.length:=by omega
     clear hM hb cb fb
     gi_wp2
     refine ⟨⟨r+1,by omega,by go_num,by rw [Nat.add_mul,Nat.one_mul];exact hJ1⟩,by simp [intOf];omega⟩
  ·have hre:(r:Int)=sc.rounds:=by omega
   have hrn:r=sc.rounds.toNat:=by omega
   rw [hrn] at hJ
   clear hM hb cb fb hre hrn hLN
   gi_wp2
   exact ⟨.tuple #[],by simp [results,Tryd.results34,go_sem]<;>rfl,⟨_,rfl⟩,hJ⟩
end Go.Proofs.YtinlmkhlgclbfabDoor
end

section
namespace Go.Proofs.YtinlmkhlgclbfabDoor
open Go.RowKit Go.Shelf
attribute [local go_sem] Oper.semAt_some
set_option maxRecDepth 100000
set_option maxHeartbeats 2000000
def machFold (c:TCfg) (sc:TScr) (pre:List Nat):Mach:=pre.foldl (fun m i=>machStep c sc i m) (mach0 c)
theorem machFold_snoc (c:TCfg)(sc:TScr)(pre:List Nat)(x:Nat):machFold c sc (pre++[x])=machStep c sc x (machFold c sc pre):=by unfold machFold;rw [List.foldl_append];rfl
theorem machFold_range (c:TCfg)(sc:TScr):∀n,machFold c sc (List.range n)=machUp c sc n:=by
 intro n
 induction n with
 |zero=>rfl
 |succ n ih=>rw [List.range_succ,machFold_snoc,ih,machUp_succ]
structure LoopM (wr:World) (M:Nat→Prop) (gm:Nat) (F0 FL FK0 F FK:Nat→Prop) (W:World):Prop where
 eff:MEff M wr W
 sz:wr.heap.size+2≤W.heap.size
 f:∀b,F b→F0 b∨wr.heap.size+2≤b
 k:∀b,FK b→FK0 b∨wr.heap.size+2≤b
 lt:∀b,MOwn gm F0 FL FK0 b→b < wr.heap.size∧M b
section
variable {wr W W' : World} {M : Nat → Prop} {gm : Nat} {F0 FL FK0 F FK F' FK' : Nat → Prop}
theorem LoopM.own (h:LoopM wr M gm F0 FL FK0 F FK W){b:Nat}(hb:MOwn gm F FL FK b):MOwn gm F0 FL FK0 b∨wr.heap.size+2≤b:=by
 rcases hb with e|e|e|e
 ·exact .inl (.inl e)
 ·exact (h.f b e).imp (fun e=> .inr (.inl e)) id
 ·exact .inl (.inr (.inr (.inl e)))
 ·exact (h.k b e).imp (fun e=> .inr (.inr (.inr e))) id
theorem LoopM.turn (h:LoopM wr M gm F0 FL FK0 F FK W){M':Nat→Prop}(hE:MEff M' W W')(hM':∀b,M' b→MOwn gm F FL FK b)(hF:∀b,F' b→F b∨W.heap.size≤b)(hK:∀b,FK' b→FK b∨W.heap.size≤b):LoopM wr M gm F0 FL FK0 F' FK' W':=
 ⟨h.eff.trans hE fun b hb=>(h.own (hM' b hb)).imp (fun e=>(h.lt b e).2) (fun e=>by omega),Nat.le_trans h.sz hE.below.size,fun b hb=>by
  rcases hF b hb with e|e
  ·exact h.f b e
  ·have:=h.sz;exact .inr (by omega),fun b hb=>by
  rcases hK b hb with e|e
  ·exact h.k b e
  ·have:=h.sz;exact .inr (by omega),h.lt⟩
theorem LoopM.at (h:LoopM wr M gm F0 FL FK0 F FK W){M':Nat→Prop}(hE:MEff M' W W')(hM':∀b,M' b→MOwn gm F FL FK b){b:Nat}(hb:b < wr.heap.size+2)(hn:¬ MOwn gm F0 FL FK0 b):W'.heap[b]?=W.heap[b]?:=
 hE.keep b (by have:=h.sz;omega) fun e=>by
  rcases h.own (hM' b e) with e|e
  ·exact hn e
  ·omega
theorem LoopM.set (h:LoopM wr M gm F0 FL FK0 F FK W){g o:Nat}(hg:M g)(v:Value):LoopM wr M gm F0 FL FK0 F FK (W.setCell ⟨g,o,none⟩ v):=
 ⟨h.eff.far (Below.setCell (Below.refl _ _) (Nat.zero_le _) _) (fun b hb=>Below.heap_setCell _ _ _ _ hb) (.inl hg),by simpa using h.sz,h.f,h.k,h.lt⟩
end
structure RunI (B:Nat) (c:TCfg) (S:TCfgS) (sc:TScr) (Z:TScrS) (gm:Nat) (F0 FL FK0:Nat→Prop) (A:Option Addr) (n:Nat) (Al:Option Addr) (nl:Nat) (w wr:World) (pre:List Nat) (W:World):Prop where
 ok:MachOk c pre.length (machFold c sc pre)
 b0:W.heap[w.heap.size]?=some (.cells #[.pointer (some ⟨gm,0,none⟩)] 61)
 b1:W.heap[w.heap.size+1]?=some (.cells #[.int .i64 (machFold c sc pre).most] 3)
 all:∃F FK Ak nk,MachW B c S sc Z gm (machFold c sc pre).ds (machFold c sc pre).last (cache0 c) F FL FK A n Al nl Ak nk W∧LoopM wr (fun b=>MOwn gm F0 FL FK0 b∨b=w.heap.size+1) gm F0 FL FK0 F FK W
theorem execRunM (B:Nat)(c:TCfg)(S:TCfgS)(sc:TScr)(Z:TScrS)(h:ScrOk c sc)(gm:Nat)(F FL FK:Nat→Prop)(A:Option Addr)(n:Nat)(Al:Option Addr)(nl:Nat)(Ak:Option Addr)(nk:Nat)(w:World)(hM:MachW B c S sc Z gm (mach0 c).ds (mach0 c).last (cache0 c) F FL FK A n Al nl Ak nk w):
  Calls Tryd.prog 18 #[.pointer (some ⟨gm,0,none⟩)] w fun e w'=>e= .returned (.int .i64 (machOf c sc).most)∧∃F' FK' Ak' nk',MachW B c S sc Z gm (machOf c sc).ds (machOf c sc).last (cache0 c) F' FL FK' A n Al nl Ak' nk' w'∧MEff (MOwn gm F FL FK) w w'∧∀b,F' b∨FK' b→F b∨FK b∨w.heap.size≤b:=by
 have hgm:=hM.size
 have hlo:=hM.lo
 have hlt:∀b,MOwn gm F FL FK b→b < w.heap.size:=fun b hb=>by
  rcases hb with e|e
  ·omega
  ·exact (hM.fp b e).2.1
 refine (callsIn_wide (n:=5)).1 ?_
 refine callsIn_of_wp_marks Tryd.func18 rfl trivial ?_ rfl
 simp only [Tryd.ntmps18,List.size_toArray,List.length_cons,List.length_nil,Nat.reduceAdd,Nat.reduceSub,Array.replicate_succ,Array.replicate_zero,List.push_toArray,List.append_toArray,List.nil_append,List.cons_append]
 have hb0:((w.alloc (.cells #[.pointer (some ⟨gm,0,none⟩)] 61)).alloc (.cells #[.int .i64 0] 3)).heap[w.heap.size]?=some (.cells #[.pointer (some ⟨gm,0,none⟩)] 61):=byH
 have hb1:((w.alloc (.cells #[.pointer (some ⟨gm,0,none⟩)] 61)).alloc (.cells #[.int .i64 0] 3)).heap[w.heap.size+1]?=some (.cells #[.int .i64 0] 3):=byH
 have hbw:Below w.heap.size w ((w.alloc (.cells #[.pointer (some ⟨gm,0,none⟩)] 61)).alloc (.cells #[.int .i64 0] 3)):=byB
 have hwz:((w.alloc (.cells #[.pointer (some ⟨gm,0,none⟩)] 61)).alloc (.cells #[.int .i64 0] 3)).heap.size=w.heap.size+2:=by simp
 gi_wp2
 generalize ((w.alloc (.cells #[.pointer (some ⟨gm,0,none⟩)] 61)).alloc (.cells #[.int .i64 0] 3))=wr at*
 refine wpIn_rangeB rfl (by omega) (gf:=34) (fb:=#[.pointer (some ⟨gm,0,none⟩)]) rfl trivial (enters_of Tryd.func34 (by kernel_rfl) rfl) (slotsIt _ (by omega) gm B c S sc Z h) (fun _=>rfl)
  (RunI B c S sc Z gm F FL FK A n Al nl w wr) ?hRd ?hext ?hput ?h0
  (fun i=>{tmps:=#[.pointer (some ⟨gm,0,none⟩),.pointer (some ⟨w.heap.size,0,none⟩),.int .i64 0,.pointer (some ⟨w.heap.size+1,0,none⟩),.int .i64 (slotNo c i:Nat),.int .i64 (slotAt c i),undef,.pointer (some ⟨gm,0,none⟩),.func (.func 34) #[.pointer (some ⟨gm,0,none⟩)] #[],.int .i64 (slotNo c i:Nat),.int .i64 (slotAt c i),undef,undef,undef,undef,undef,undef,undef,undef,undef,undef,undef,undef,undef,undef,undef,undef,undef,undef,undef],defers:=[]}) ?assign ?body ?done
 case hRd=>
  rintro pre W ⟨_,_,_,F1,FK1,Ak1,nk1,hM1,_⟩
  exact ⟨_,_,_,_,_,_,_,_,_,_,_,_,hM1⟩
 case hext=>
  rintro pre W W' ⟨ok,b0,b1,F1,FK1,Ak1,nk1,hM1,hL⟩ hb
  exact ⟨ok,(hb.block _ (blk b0).2.2).trans b0,(hb.block _ (blk b1).2.2).trans b1,F1,FK1,Ak1,nk1,hM1.ext hb,hL.turn (M':=fun _=>False) (MEff.ofBelow hb) (fun _ e=>e.elim) (fun _ e=> .inl e) fun _ e=> .inl e⟩
 case hput=>
  rintro pre W o ⟨ok,b0,b1,F1,FK1,Ak1,nk1,hM1,hL⟩
  have hk:∀b,b≠wr.heap.size+1→(W.putObj (wr.heap.size+1) o).heap[b]?=W.heap[b]?:=fun b hb=>World.putObj_heap_other hb
  have hn:∀b,MOwn gm F1 FL FK1 b→b≠wr.heap.size+1:=fun b hb e=>by
   rcases hL.own hb with e1|e1
   ·have:=(hL.lt _ e1).1;omega
   ·omega
  have hlow:=hM1.lo
  have hsz:=hL.sz
  refine ⟨ok,(hk _ (by omega)).trans b0,(hk _ (by omega)).trans b1,F1,FK1,Ak1,nk1,hM1.keep (by simp) fun b hb=>hk b ?_,⟨⟨hL.eff.below.trans ⟨rfl,rfl,rfl,by simp,fun j hj=>absurd hj (Nat.not_lt_zero j)⟩,fun b hb hnb=>(hk b (by omega)).trans (hL.eff.keep b hb hnb)⟩,by simpa using hsz,hL.f,hL.k,hL.lt⟩⟩
  rcases hb with hb|hb
  ·omega
  ·exact hn b hb
 case h0=>
  intro W1 hW1 hb
  have hb2:Below w.heap.size w W1:=hbw.trans (hb.mono (by omega))
  exact ⟨mach0_ok h.cfg,(hb.block _ (by omega)).trans hb0,(hb.block _ (by omega)).trans hb1,F,FK,Ak,nk,hM.ext hb2,⟨MEff.ofBelow hb,hW1,fun _ e=> .inl e,fun _ e=> .inl e,fun b hb=>⟨by have:=hlt b hb;omega,.inl hb⟩⟩⟩
 case assign=>
  intro l x W K hK
  gi_wp2
  exact hK
 case body=>
  rintro pre x W hx hsz ⟨ok,b0,b1,F1,FK1,Ak1,nk1,hM1,hL⟩ hlen
  have h48:=slotsIn_le h
  have hno:=slotNo_lt h.cfg x
  have hat:=slotAt_bd h hx
  have HS:=execSlot h ok (by omega) hno ⟨hat.1,by omega⟩ W hM1
  have hok:=slot_ok (s:=(slotNo c x:Nat)) h ok ⟨by omega,by omega⟩ ⟨hat.1,by omega⟩
  have hcs:=cache0_shape h.cfg
  have hk1:emptyCache (slotWinK c sc (slotNo c x:Nat) (slotAt c x) (machFold c sc pre)).length (nth (slotWinK c sc (slotNo c x:Nat) (slotAt c x) (machFold c sc pre)) 0).length=cache0 c:=by
   rw [show (slotWinK c sc (slotNo c x:Nat) (slotAt c x) (machFold c sc pre)).length=_ from hok.win.shape.1,show (nth (slotWinK c sc (slotNo c x:Nat) (slotAt c x) (machFold c sc pre)) 0).length=_ from hok.win.shape.2]
   unfold cache0 at hcs⊢
   rw [show (emptyCache c.sets.toNat c.ways.toNat).length=c.sets.toNat by omega,show (nth (emptyCache c.sets.toNat c.ways.toNat) 0).length=c.ways.toNat by omega]
  have hck:CacheOk (slotWinK c sc (slotNo c x:Nat) (slotAt c x) (machFold c sc pre)):=hok.win.cache
  have hst:=slot_done h hok ok
  have hsn:=machFold_snoc c sc pre x
  obtain ⟨c0,f0,z0⟩:=blk b0
  have HR:=zH (⟨ok,b1,hL,hok,hst,hsn,hck,hk1⟩:_∧_∧_∧_∧_∧_∧_∧_)
  clear b1 hL hok hst hsn hck hk1 hM1 ok
  gi_wp2_with fail
  refine ⟨trivial,?_⟩
  gi_at_call 35
  refine (CallsIn.inRound _ (callsIn_wide.2 HS)).mono ?_
  rintro e w2 ⟨rfl,F2,hM2,hE2,hF2⟩
  obtain ⟨ok,b1,hL,hok,hst,hsn,hck,hk1⟩:=HR.out
  have hL2:=hL.turn hE2 (fun _ e=>e) hF2 (fun _ e=> .inl e)
  have hnn:∀b,w.heap.size≤b→¬ MOwn gm F FL FK b:=fun b hb e=>by have:=hlt b e;omega
  have hat2:=fun b (hb:b < wr.heap.size+2) hn=>hL.at hE2 (fun _ e=>e) (b:=b) hb hn
  have b02:=(hat2 w.heap.size (by omega) (hnn _ (Nat.le_refl _))).trans b0
  have hEs:=hE2.below.size
  clear HR HS hE2
  gi_wp2_with fail
  refine runR7 _ (by kernel_rfl) hM2 b02 hck hk1 rfl (fun ⟨_,_,h⟩=>Exit.noConfusion (And.left (show Exit.outgrown=Exit.normal∧_ from h))) ?_
  intro _ _ _ _ _ _ _ _ _ _ _ A9 n9 FK9 W9 hM9 hE9 hF9
  have hM':∀b,b=gm→MOwn gm F2 FL FK1 b:=fun b e=> .inl e
  have hL9:=hL2.turn (F':=F2) (FK':=FK9) hE9 hM' (fun _ e=> .inl e) (fun b e=> .inr (hF9 b e))
  have hat9:=fun b (hb:b < wr.heap.size+2) hn=>hL2.at hE9 hM' (b:=b) hb hn
  have kk:=fun b (hb:b < wr.heap.size+2) (h2:w.heap.size≤b)=>(hat9 b hb (hnn b h2)).trans (hat2 b hb (hnn b h2))
  have b19:=(kk (w.heap.size+1) (by omega) (by omega)).trans b1
  have b09:=(kk w.heap.size (by omega) (by omega)).trans b0
  obtain ⟨c9,f9,z9⟩:=blk b19
  have hz9:=hL9.sz
  have hkd:=kk wr.heap.size (by omega) (by omega)
  have hkr:=kk (wr.heap.size+1) (by omega) (by omega)
  have hset:=hL9.set (g:=w.heap.size+1) (o:=0) (.inr rfl)
  have HF:∀v,v=max (machFold c sc pre).most (flushOf (slotWinK c sc (slotNo c x:Nat) (slotAt c x) (machFold c sc pre)))→RunI B c S sc Z gm F FL FK A n Al nl w wr (pre++[x]) (W9.setCell ⟨w.heap.size+1,0,none⟩ (.int .i64 v)):=fun v hv=>by
   have hm:machFold c sc (pre++[x])=slotAll c sc (slotNo c x:Nat) (slotAt c x) (machFold c sc pre):=hsn
   have kp:∀b,b≠w.heap.size+1→(W9.setCell ⟨w.heap.size+1,0,none⟩ (.int .i64 v)).heap[b]?=W9.heap[b]?:=fun b hb=>Below.heap_setCell _ _ _ _ hb
   refine ⟨by rw [hm,List.length_append];exact hst,(kp _ (by omega)).trans b09,?_,F2,FK9,A9,n9,?_,hset _⟩
   ·have:=heap_set_same (i:=0) (u:= .int .i64 v) b19
    rw [hm,show (slotAll c sc (slotNo c x:Nat) (slotAt c x) (machFold c sc pre)).most=v from hv.symm]
    simpa using this
   ·rw [hm]
    refine hM9.keep (by simp) fun b hb=>kp b fun e=>?_
    rcases hb with hb|hb
    ·omega
    ·rcases hL9.own hb with e1|e1
     ·have:=hlt _ e1;omega
     ·omega
  replace HF:=zH HF
  have hsw:W.heap.size≤W9.heap.size:=Nat.le_trans hEs hE9.below.size
  clear hM2 hM9 hE9 hL2 hL9 hset hst hsn hok hck hk1 ok hL
  gi_wp2_with fail
  ·exact ⟨heap_set_far (by rw [← hwz];exact hkd) (by simp),heap_set_far (by rw [← hwz];exact hkr) (by simp),HF.out _ (Int.max_eq_right (by omega)).symm⟩
  ·exact ⟨heap_set_far (by rw [← hwz];exact hkd) (by simp),heap_set_far (by rw [← hwz];exact hkr) (by simp),HF.out _ (Int.max_eq_left (by omega)).symm⟩
 case done=>
  rintro xs W rfl ⟨ok,b0,b1,F1,FK1,Ak1,nk1,hM1,hL⟩ hk hsz
  rw [machFold_range] at b1 hM1
  obtain ⟨c1,f1,z1⟩:=blk b1
  have hn1:∀b,MOwn gm F1 FL FK1 b→b≠wr.heap.size:=fun b hb e=>by
   rcases hL.own hb with e1|e1
   ·have:=hlt _ e1;omega
   ·omega
  have hlow:=hM1.lo
  have HZ:∀o,∃F' FK' Ak' nk',MachW B c S sc Z gm (machOf c sc).ds (machOf c sc).last (cache0 c) F' FL FK' A n Al nl Ak' nk' (W.putObj wr.heap.size o)∧MEff (MOwn gm F FL FK) w (W.putObj wr.heap.size o)∧∀b,F' b∨FK' b→F b∨FK b∨w.heap.size≤b:=fun o=>by
   have kp:∀b,b≠wr.heap.size→(W.putObj wr.heap.size o).heap[b]?=W.heap[b]?:=fun b hb=>World.putObj_heap_other hb
   refine ⟨F1,FK1,Ak1,nk1,hM1.keep (by simp) fun b hb=>kp b ?_,⟨(hbw.mono (Nat.zero_le _)).trans (hL.eff.below.trans ⟨rfl,rfl,rfl,by simp,fun j hj=>absurd hj (Nat.not_lt_zero j)⟩),fun b hb hnb=>(kp b (by omega)).trans ((hL.eff.keep b (by omega) fun e=>?_).trans (hbw.block b hb))⟩,fun b hb=>?_⟩
   ·rcases hb with hb|hb
    ·omega
    ·exact hn1 b hb
   ·rcases e with e|e
    ·exact hnb e
    ·omega
   ·rcases hb with hb|hb
    ·rcases hL.f b hb with e|e
     ·exact .inl e
     ·exact .inr (.inr (by omega))
    ·rcases hL.k b hb with e|e
     ·exact .inr (.inl e)
     ·exact .inr (.inr (by omega))
  replace HZ:=zH HZ
  clear hM1 hL
  gi_wp2
  refine ⟨by simp,.inl ⟨_,_,rfl,run_takeDeferred hk,?_⟩⟩
  exact ⟨_,results_tmp rfl _ _ _,by simp [Act.eval]<;>rfl,HZ.out _⟩
end Go.Proofs.YtinlmkhlgclbfabDoor
end
