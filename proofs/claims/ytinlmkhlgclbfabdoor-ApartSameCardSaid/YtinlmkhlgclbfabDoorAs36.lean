/- SlotF -/
import Derived.Test.YtinlmkhlgclbfabDoorAs35
namespace Go.Proofs.YtinlmkhlgclbfabDoor
open Go.RowKit
set_option maxRecDepth 1000000
set_option maxHeartbeats 4000000
section
variable {B : Nat} {c : TCfg} {S : TCfgS} {sc : TScr} {Z : TScrS} {gm : Nat} {ds : List TDom} {last : List Int} {k k' : List (List TWay)} {F FL FK FK' : Nat → Prop} {A : Option Addr} {n : Nat} {Al : Option Addr} {nl : Nat} {Ak Ak' : Option Addr} {nk nk' : Nat} {W W' : World}
theorem MachW.setCache (h:MachW B c S sc Z gm ds last k F FL FK A n Al nl Ak nk W)(hb:Below W.heap.size W W')(hK:OCache FK' W' (.slice Ak' k'.length nk') k')(hF:∀b,FK' b→W.heap.size≤b∧b < W'.heap.size):MachW B c S sc Z gm ds last k' F FL FK' A n Al nl Ak' nk' (W'.setCell ⟨gm,14,none⟩ (.slice Ak' k'.length nk')):=by
 have hs:=h.size
 have hlo:=h.lo
 have h1:=h.ext hb
 have kp:∀b,b≠gm→(W'.setCell ⟨gm,14,none⟩ (.slice Ak' k'.length nk')).heap[b]?=W'.heap[b]?:=fun b hb=>Below.heap_setCell _ _ _ _ hb
 refine ⟨?_,h1.cfg.keep fun b hb=>kp b (by have hb':b < B:=hb;omega),h1.scr.keep fun b hb=>kp b (by have hb':b < B:=hb;omega),OZl.keep h1.dom fun b hb=>kp b (h.fp b (.inl hb)).2.2,OZl.keep h1.lst fun b hb=>kp b (h.fp b (.inr (.inl hb))).2.2,OSl.keep hK fun b hb=>kp b (by have:=(hF b hb).1;omega),hlo,fun b hb=>?_,fun b=>⟨fun hb=>⟨((h.dd b).1 hb).1,fun hk=>?_⟩,fun hb hk=>?_⟩⟩
 ·have:=heap_set_same (i:=14) (u:= .slice Ak' k'.length nk') h1.blk
  simpa using this
 ·rcases hb with hb|hb|hb
  ·simpa using h1.fp b (.inl hb)
  ·simpa using h1.fp b (.inr (.inl hb))
  ·have:=hF b hb;exact ⟨by omega,by simpa using this.2,by omega⟩
 ·have:=(h.fp b (.inl hb)).2.1;have:=(hF b hk).1;omega
 ·have:=(h.fp b (.inr (.inl hb))).2.1;have:=(hF b hk).1;omega
end
structure ClrG (Wb:World) (kv:Option Addr→Nat→Value) (fl:Int) (P0 P1:Option Addr→Nat→World→Prop) (l:Array Bool) (f:Nat→Value) (W:World) (A:Option Addr) (n:Nat):Prop where
 ne:¬ Lst l 11→Below Wb.heap.size Wb W
 o:Lst l 11→Lst l 0∧Lst l 1∧Lst l 4∧Lst l 5
 s5:Lst l 5→f 21= .tuple #[kv A n,.int .i64 fl]∧(¬ Lst l 11→P0 A n W)
 s6:Lst l 6→Lst l 5∧f 15= .tuple #[kv A n,.int .i64 fl]
 s7:Lst l 7→Lst l 5∧f 22=kv A n
 s8:Lst l 8→f 23= .int .i64 fl
 s11:Lst l 11→P1 A n W
def ClrS (Wb:World) (kv:Option Addr→Nat→Value) (fl:Int) (P0 P1:Option Addr→Nat→World→Prop) (l:Array Bool) (f:Nat→Value) (W:World):Prop:=∃A n,ClrG Wb kv fl P0 P1 l f W A n
section
variable {Wb W W' : World} {kv : Option Addr → Nat → Value} {fl : Int} {P0 P1 : Option Addr → Nat → World → Prop} {l : Array Bool} {f : Nat → Value} {A : Option Addr} {n : Nat}
theorem clrS_start (hl:∀i,¬ Lst l i)(hb:Below Wb.heap.size Wb W):ClrS Wb kv fl P0 P1 l f W:=
 ⟨none,0,fun _=>hb,fun h=>absurd h (hl _),fun h=>absurd h (hl _),fun h=>absurd h (hl _),fun h=>absurd h (hl _),fun h=>absurd h (hl _),fun h=>absurd h (hl _)⟩
theorem ClrS.ne (h:ClrS Wb kv fl P0 P1 l f W)(hn:¬ Lst l 11):Below Wb.heap.size Wb W:=by obtain ⟨T,G,h⟩:=h;exact h.ne hn
theorem ClrS.o (h:ClrS Wb kv fl P0 P1 l f W)(hn:Lst l 11):Lst l 0∧Lst l 1∧Lst l 4∧Lst l 5:=by obtain ⟨T,G,h⟩:=h;exact h.o hn
theorem ClrG.step (h:ClrG Wb kv fl P0 P1 l f W A n){i dd:Nat}{v:Value}(hi:i≠5∧i≠11)(hd:dd≠21)(e6:i=6∨dd=15→i=6∧dd=15∧Lst l 5∧v= .tuple #[kv A n,.int .i64 fl])(e7:i=7∨dd=22→i=7∧dd=22∧Lst l 5∧v=kv A n)(e8:i=8∨dd=23→i=8∧dd=23∧v= .int .i64 fl):
  ClrG Wb kv fl P0 P1 (l.setIfInBounds i true) (upd f (some dd) v) W A n:=by
 refine ⟨fun a=>h.ne fun c=>a c.fwd,fun a=>?_,fun a=>?_,fun a=>?_,fun a=>?_,fun a=>?_,fun a=>h.s11 (a.back hi.2)⟩
 ·obtain ⟨h1,h2,h3,h4⟩:=h.o (a.back hi.2)
  exact ⟨h1.fwd,h2.fwd,h3.fwd,h4.fwd⟩
 ·rw [upd_ne f _ (Ne.symm hd)];exact ⟨(h.s5 (a.back hi.1)).1,fun c=>(h.s5 (a.back hi.1)).2 fun e=>c e.fwd⟩
 ·by_cases c:i=6∨dd=15
  ·obtain ⟨-,rfl,h1,rfl⟩:=e6 c;exact ⟨h1.fwd,upd_at _ _ _⟩
  ·rw [upd_ne f _ (show 15≠dd by omega)];exact ⟨(h.s6 (a.back (by omega))).1.fwd,(h.s6 (a.back (by omega))).2⟩
 ·by_cases c:i=7∨dd=22
  ·obtain ⟨-,rfl,h1,rfl⟩:=e7 c;exact ⟨h1.fwd,upd_at _ _ _⟩
  ·rw [upd_ne f _ (show 22≠dd by omega)];exact ⟨(h.s7 (a.back (by omega))).1.fwd,(h.s7 (a.back (by omega))).2⟩
 ·by_cases c:i=8∨dd=23
  ·obtain ⟨-,rfl,rfl⟩:=e8 c;exact upd_at _ _ _
  ·rw [upd_ne f _ (show 23≠dd by omega)];exact h.s8 (a.back (by omega))
theorem ClrS.skip (h:ClrS Wb kv fl P0 P1 l f W){i dd:Nat}(hi:i ∉ [5,6,7,8,11]:=by decide)(hd:dd ∉ [15,21,22,23]:=by decide)(v:Value):ClrS Wb kv fl P0 P1 (l.setIfInBounds i true) (upd f (some dd) v) W:=by
 obtain ⟨A,n,h⟩:=h
 simp only [List.mem_cons,List.not_mem_nil,or_false,not_or] at hi hd
 exact ⟨A,n,h.step ⟨hi.1,hi.2.2.2.2⟩ hd.2.1 (fun c=>by omega) (fun c=>by omega) (fun c=>by omega)⟩
theorem ClrS.call (h:ClrS Wb kv fl P0 P1 l f W)(hz:5 < l.size)(hn:¬ Lst l 5){A:Option Addr}{n:Nat}(hP:P0 A n W')(hb:Below Wb.heap.size Wb W'):ClrS Wb kv fl P0 P1 (l.setIfInBounds 5 true) (upd f (some 21) (.tuple #[kv A n,.int .i64 fl])) W':=by
 obtain ⟨_,_,h⟩:=h
 have h11:¬ Lst l 11:=fun e=>hn (h.o e).2.2.2
 refine ⟨A,n,fun _=>hb,fun a=>absurd a.b h11,fun _=>⟨upd_at _ _ _,fun _=>hP⟩,fun a=>absurd (h.s6 a.b).1 hn,fun a=>absurd (h.s7 a.b).1 hn,fun a=>?_,fun a=>absurd a.b h11⟩
 rw [upd_ne f _ (show 23≠21 by decide)]
 exact h.s8 a.b
theorem ClrG.put (h:ClrG Wb kv fl P0 P1 l f W A n)(hz:11 < l.size)(ho:Lst l 0∧Lst l 1∧Lst l 4∧Lst l 5)(hP:P1 A n W'){v:Value} :ClrS Wb kv fl P0 P1 (l.setIfInBounds 11 true) (upd f none v) W':=by
 have self:Lst (l.setIfInBounds 11 true) 11:=Lst.self hz
 have e:upd f none v=f:=by funext k;simp [upd]
 rw [e]
 exact ⟨A,n,fun a=>absurd self a,fun _=>⟨ho.1.fwd,ho.2.1.fwd,ho.2.2.1.fwd,ho.2.2.2.fwd⟩,fun _=>⟨(h.s5 ho.2.2.2).1,fun a=>absurd self a⟩,fun a=>⟨ho.2.2.2.fwd,(h.s6 a.b).2⟩,fun a=>⟨ho.2.2.2.fwd,(h.s7 a.b).2⟩,fun a=>h.s8 a.b,fun _=>hP⟩
end
theorem ocache_set {W:World}{gm a i:Nat}{u v:Value}{k:List (List TWay)}(h:OCache (Rng a W.heap.size) W v k)(hg:gm < a):OCache (Rng a (W.setCell ⟨gm,i,none⟩ u).heap.size) (W.setCell ⟨gm,i,none⟩ u) v k:=by
 rw [World.size_setCell]
 exact OSl.keep h fun b hb=>Below.heap_setCell _ _ _ _ (by have:=hb.1;show b≠gm;omega)
theorem emptyCall {c:TCfg}(ok:CfgOk c)(w:World):Calls Tryd.prog 32 #[.int .i64 c.sets,.int .i64 c.ways] w (RetCache (cache0 c) w):=by
 have:=ok.sets
 have:=ok.ways
 have h:=cacheEmpty c.sets.toNat c.ways.toNat w (by omega) (by omega)
 rw [show ((c.sets.toNat:Nat):Int)=c.sets by omega,show ((c.ways.toNat:Nat):Int)=c.ways by omega] at h
 exact h
def slotRnF (k:Nat):Code→Option Code
 | .seq a b=>match slotRnF k a with
  |some c=>some c
  |none=>slotRnF k b
 | .cond _ a b=>match slotRnF k a with
  |some c=>some c
  |none=>slotRnF k b
 | .block _ c=>slotRnF k c
 | .loop c=>slotRnF k c
 | .rangeFunc _ _ _ c=>slotRnF k c
 | .region i o d=>if i==k then some (.region i o d) else none
 |_=>none
noncomputable def runR (k:Nat):Code:=(Tryd.f18.body.bind (slotRnF k)).getD .skip
noncomputable def apartR (k:Nat):Code:=(Tryd.f19.body.bind (slotRnF k)).getD .skip
theorem runR7 (C:Code)(hC:C=runR 7){B:Nat}{c:TCfg}{S:TCfgS}{sc:TScr}{Z:TScrS}{gm:Nat}{ds:List TDom}{last:List Int}{k:List (List TWay)}{F FL FK:Nat→Prop}{A:Option Addr}{n:Nat}{Al:Option Addr}{nl:Nat}{Ak:Option Addr}{nk:Nat}{Wb:World}{gb rr nn:Nat}(hM:MachW B c S sc Z gm ds last k F FL FK A n Al nl Ak nk Wb)(hbm:Wb.heap[gb]?=some (.cells #[.pointer (some ⟨gm,0,none⟩)] 61))(hk:CacheOk k){k1:List (List TWay)}(hk1:emptyCache k.length (nth k 0).length=k1){fl:Int}(hfl:flushOf k=fl)
  {u0 u2 u3 u4 u5 u6 u7 u8 u9 u10 u11 u12 u13 u14 u15 u16 u17 u18 u19 u20 u21 u22 u23 u24 u25 u26 u27 u28 u29:Value} {Q:Exit→Act→World→Prop} (hLQ:¬ LetsOut Q)
  (hQ:∀(v15 v16 v17 v18 v19 v20 v21 v22 v23 v24 v25:Value) (A9:Option Addr) (n9:Nat) (FK':Nat→Prop) (W':World),MachW B c S sc Z gm ds last k1 F FL FK' A n Al nl A9 n9 W'→MEff (fun b=>b=gm) Wb W'→(∀b,FK' b→Wb.heap.size≤b)→Q .normal ⟨[u0,.pointer (some ⟨gb,0,none⟩),u2,u3,u4,u5,(.int .i64 fl),u7,u8,u9,u10,u11,u12,u13,u14,v15,v16,v17,v18,v19,v20,v21,v22,v23,v24,v25,u26,u27,u28,u29].toArray,[]⟩ W'):
  C.wpIn (Fence.wide.inRound rr) nn Tryd.prog Q ⟨[u0,.pointer (some ⟨gb,0,none⟩),u2,u3,u4,u5,u6,u7,u8,u9,u10,u11,u12,u13,u14,u15,u16,u17,u18,u19,u20,u21,u22,u23,u24,u25,u26,u27,u28,u29].toArray,[]⟩ Wb:=by
 subst hC
 replace hQ:=zH hQ
 conv=>arg 1;whnf
 have hgs:=hM.size
 have hz:=(blk hbm).2.2
 have hlo:=hM.lo
 have KB:=zH (fun W (h:Below Wb.heap.size Wb W)=>(blk ((h.block _ hz).trans hbm)).1 0)
 have KM:=zH (fun W (h:Below Wb.heap.size Wb W)=>(h.block _ hgs).trans hM.blk)
 have HE:=zH (fun W (h:Below Wb.heap.size Wb W)=>(cacheClear k hk Ak nk W.heap.size W (Nat.le_refl _) ((show Sl cWay.slice FK W Ak nk k from OSl.read (hM.ext h).cch).mono fun b hb=>((hM.ext h).fp b (.inr (.inr hb))).2.1)).mono
  fun e w' he=>(by obtain ⟨A9,n9,h1,h2,h3⟩:=he;rw [hk1,hfl] at*;exact ⟨A9,n9,h1,OSl.mono h2 fun b hb=>⟨by have:=h.size;have:=hb.1;omega,hb.2⟩,h.trans (h3.mono h.size)⟩:∃A9 n9,e=Ending.returned (.tuple #[.agg #[.slice A9 k1.length n9],.int .i64 fl])∧OCache (Rng Wb.heap.size w'.heap.size) w' (.slice A9 k1.length n9) k1∧Below Wb.heap.size Wb w'))
 have KP:=zH (fun A9 n9 W (h:Below Wb.heap.size Wb W) (hK:OCache (Rng Wb.heap.size W.heap.size) W (.slice A9 k1.length n9) k1)=>(⟨_,hM.setCache h hK fun b hb=>hb,(MEff.ofBelow h).far (Below.setCell (Below.refl _ _) (Nat.zero_le _) _) (fun b hb=>Below.heap_setCell _ _ _ _ hb) (.inl rfl),fun b hb=>hb.1⟩:
  ∃FK',MachW B c S sc Z gm ds last k1 F FL FK' A n Al nl A9 n9 (W.setCell ⟨gm,14,none⟩ (.slice A9 k1.length n9))∧MEff (fun b=>b=gm) Wb (W.setCell ⟨gm,14,none⟩ (.slice A9 k1.length n9))∧∀b,FK' b→Wb.heap.size≤b))
 clear hM hk hk1 hfl hbm hlo
 refine wpR_region_inv [16,17,18,19,20,21,15,22,23,24,25,6] (fun l f W=>(ClrS Wb (fun A9 n9=> .agg #[.slice A9 k1.length n9]) fl (fun A9 n9 W=>OCache (Rng Wb.heap.size W.heap.size) W (.slice A9 k1.length n9) k1) (fun A9 n9 W=>∃FK',MachW B c S sc Z gm ds last k1 F FL FK' A n Al nl A9 n9 W∧MEff (fun b=>b=gm) Wb W∧∀b,FK' b→Wb.heap.size≤b) l f W∧l.size=13)∧Fa l 0 (f 16= .pointer (some ⟨gm,0,none⟩))∧Fa l 1 (f 17= .pointer (some ⟨gm,0,none⟩))∧Fa l 2 (f 18= .pointer (some ⟨gm,0,none⟩))∧Fa l 3 (f 19= .pointer (some ⟨gm,14,none⟩))∧Fa l 4 (f 20= .agg #[.slice Ak k.length nk])∧Fa l 9 (f 24= .pointer (some ⟨gm,0,none⟩))∧Fa l 10 (f 25= .pointer (some ⟨gm,14,none⟩))∧Fa l 12 (f 6= .int .i64 fl)) (by kernel_rfl) (by decide) (by kernel_rfl) (by kernel_rfl) hLQ (by intro s hs;simp at hs⊢;omega) ?_ ?_ ?_
 ·intro l hz hl
  exact ⟨⟨clrS_start hl (Below.refl _ _).drew,hz⟩,.no (hl 0),.no (hl 1),.no (hl 2),.no (hl 3),.no (hl 4),.no (hl 9),.no (hl 10),.no (hl 12)⟩
 ·refine StepsL.c 1 [] (fun l f W hR hn hb K Q2 hK=>?_) ?_
  ·obtain ⟨hS,h0,h1,h2,h3,h4,h9,h10,h12⟩:=hR
   have hS9:=hS.1.ne fun h=>hn (hS.1.o h).1
   clear hb
   refine ⟨?_⟩
   simp only [pfs] at hK⊢
   have kb:=KB.out W hS9
   go_simp
   refine hK.out _ _ ⟨⟨hS.1.skip (v:=_),by simpa using hS.2⟩,⟨fun _=>rfl⟩,h1.k,h2.k,h3.k,h4.k,h9.k,h10.k,h12.k⟩
  refine StepsL.c 2 [] (fun l f W hR hn hb K Q2 hK=>?_) ?_
  ·obtain ⟨hS,h0,h1,h2,h3,h4,h9,h10,h12⟩:=hR
   have hS9:=hS.1.ne fun h=>hn (hS.1.o h).2.1
   clear hb
   refine ⟨?_⟩
   simp only [pfs] at hK⊢
   have kb:=KB.out W hS9
   go_simp
   refine hK.out _ _ ⟨⟨hS.1.skip (v:=_),by simpa using hS.2⟩,h0.k,⟨fun _=>rfl⟩,h2.k,h3.k,h4.k,h9.k,h10.k,h12.k⟩
  refine StepsL.c 3 [1] (fun l f W hR hn hb K Q2 hK=>?_) ?_
  ·obtain ⟨hS,h0,h1,h2,h3,h4,h9,h10,h12⟩:=hR
   have q1:=h1.out (hb 1 (by simp))
   clear hb
   refine ⟨?_⟩
   simp only [pfs] at hK⊢
   (try simp only [q1] at hK)
   go_simp
   refine hK.out _ _ ⟨⟨hS.1.skip (v:=_),by simpa using hS.2⟩,h0.k,h1.k,⟨fun _=>rfl⟩,h3.k,h4.k,h9.k,h10.k,h12.k⟩
  refine StepsL.c 4 [2] (fun l f W hR hn hb K Q2 hK=>?_) ?_
  ·obtain ⟨hS,h0,h1,h2,h3,h4,h9,h10,h12⟩:=hR
   have q2:=h2.out (hb 2 (by simp))
   clear hb
   refine ⟨?_⟩
   simp only [pfs] at hK⊢
   (try simp only [q2] at hK)
   go_simp
   refine hK.out _ _ ⟨⟨hS.1.skip (v:=_),by simpa using hS.2⟩,h0.k,h1.k,h2.k,⟨fun _=>rfl⟩,h4.k,h9.k,h10.k,h12.k⟩
  refine StepsL.c 5 [3] (fun l f W hR hn hb K Q2 hK=>?_) ?_
  ·obtain ⟨hS,h0,h1,h2,h3,h4,h9,h10,h12⟩:=hR
   have q3:=h3.out (hb 3 (by simp))
   have hS9:=hS.1.ne fun h=>hn (hS.1.o h).2.2.1
   clear hb
   refine ⟨?_⟩
   simp only [pfs] at hK⊢
   (try simp only [q3] at hK)
   obtain ⟨cX,fX,zX⟩:=blk (KM.out W hS9)
   go_simp
   refine hK.out _ _ ⟨⟨hS.1.skip (v:=_),by simpa using hS.2⟩,h0.k,h1.k,h2.k,h3.k,⟨fun _=>rfl⟩,h9.k,h10.k,h12.k⟩
  refine StepsL.c 6 [4] (fun l f W hR hn hb K Q2 hK=>?_) ?_
  ·obtain ⟨hS,h0,h1,h2,h3,h4,h9,h10,h12⟩:=hR
   have q4:=h4.out (hb 4 (by simp))
   have hS9:=hS.1.ne fun h=>hn (hS.1.o h).2.2.2
   have HL:=HE.out W hS9
   clear hb
   refine ⟨?_⟩
   simp only [pfs] at hK⊢
   (try simp only [q4] at hK)
   go_simp
   go_at_call 36
   refine HL.mono ?_
   clear HL
   rintro e w9 ⟨A9,n9,rfl,hK9,hb9⟩
   try dsimp only
   try simp only [Act.put,List.setIfInBounds_toArray,List.set_cons_zero,List.set_cons_succ]
   refine hK.out _ _ ⟨⟨hS.1.call (by omega) hn (hK9) (hb9),by simpa using hS.2⟩,h0.k,h1.k,h2.k,h3.k,h4.k,h9.k,h10.k,h12.k⟩
  refine StepsL.c 7 [5] (fun l f W hR hn hb K Q2 hK=>?_) ?_
  ·obtain ⟨hS,h0,h1,h2,h3,h4,h9,h10,h12⟩:=hR
   have L:=hb 5 (by simp)
   obtain ⟨A9,n9,hG9⟩:=hS.1
   have e9:=(hG9.s5 L).1
   clear hb
   refine ⟨?_⟩
   simp only [pfs] at hK⊢
   (try simp only [e9] at hK)
   go_simp
   refine hK.out _ _ ⟨⟨⟨A9,n9,hG9.step (by decide) (by decide) (fun _=>⟨rfl,rfl,L,rfl⟩) (fun c=>by omega) (fun c=>by omega)⟩,by simpa using hS.2⟩,h0.k,h1.k,h2.k,h3.k,h4.k,h9.k,h10.k,h12.k⟩
  refine StepsL.c 8 [6] (fun l f W hR hn hb K Q2 hK=>?_) ?_
  ·obtain ⟨hS,h0,h1,h2,h3,h4,h9,h10,h12⟩:=hR
   have L:=hb 6 (by simp)
   obtain ⟨A9,n9,hG9⟩:=hS.1
   have e9:=(hG9.s6 L).2
   clear hb
   refine ⟨?_⟩
   simp only [pfs] at hK⊢
   (try simp only [e9] at hK)
   go_simp
   refine hK.out _ _ ⟨⟨⟨A9,n9,hG9.step (by decide) (by decide) (fun c=>by omega) (fun _=>⟨rfl,rfl,(hG9.s6 L).1,rfl⟩) (fun c=>by omega)⟩,by simpa using hS.2⟩,h0.k,h1.k,h2.k,h3.k,h4.k,h9.k,h10.k,h12.k⟩
  refine StepsL.c 9 [6] (fun l f W hR hn hb K Q2 hK=>?_) ?_
  ·obtain ⟨hS,h0,h1,h2,h3,h4,h9,h10,h12⟩:=hR
   have L:=hb 6 (by simp)
   obtain ⟨A9,n9,hG9⟩:=hS.1
   have e9:=(hG9.s6 L).2
   clear hb
   refine ⟨?_⟩
   simp only [pfs] at hK⊢
   (try simp only [e9] at hK)
   go_simp
   refine hK.out _ _ ⟨⟨⟨A9,n9,hG9.step (by decide) (by decide) (fun c=>by omega) (fun c=>by omega) (fun _=>⟨rfl,rfl,rfl⟩)⟩,by simpa using hS.2⟩,h0.k,h1.k,h2.k,h3.k,h4.k,h9.k,h10.k,h12.k⟩
  refine StepsL.c 10 [0,0,1,2,3,4,5,6,7] (fun l f W hR hn hb K Q2 hK=>?_) ?_
  ·obtain ⟨hS,h0,h1,h2,h3,h4,h9,h10,h12⟩:=hR
   have q0:=h0.out (hb 0 (by simp))
   have q1:=h1.out (hb 1 (by simp))
   have q2:=h2.out (hb 2 (by simp))
   have q3:=h3.out (hb 3 (by simp))
   have q4:=h4.out (hb 4 (by simp))
   clear hb
   refine ⟨?_⟩
   simp only [pfs] at hK⊢
   (try simp only [q0,q1,q2,q3,q4] at hK)
   go_simp
   refine hK.out _ _ ⟨⟨hS.1.skip (v:=_),by simpa using hS.2⟩,h0.k,h1.k,h2.k,h3.k,h4.k,⟨fun _=>rfl⟩,h10.k,h12.k⟩
  refine StepsL.c 11 [9,0,1,2,3,4,5,6,7] (fun l f W hR hn hb K Q2 hK=>?_) ?_
  ·obtain ⟨hS,h0,h1,h2,h3,h4,h9,h10,h12⟩:=hR
   have q0:=h0.out (hb 0 (by simp))
   have q1:=h1.out (hb 1 (by simp))
   have q2:=h2.out (hb 2 (by simp))
   have q3:=h3.out (hb 3 (by simp))
   have q4:=h4.out (hb 4 (by simp))
   have q9:=h9.out (hb 9 (by simp))
   clear hb
   refine ⟨?_⟩
   simp only [pfs] at hK⊢
   (try simp only [q0,q1,q2,q3,q4,q9] at hK)
   go_simp
   refine hK.out _ _ ⟨⟨hS.1.skip (v:=_),by simpa using hS.2⟩,h0.k,h1.k,h2.k,h3.k,h4.k,h9.k,⟨fun _=>rfl⟩,h12.k⟩
  refine StepsL.c 12 [10,7,5,0,1,2,3,4,5,6,7] (fun l f W hR hn hb K Q2 hK=>?_) ?_
  ·obtain ⟨hS,h0,h1,h2,h3,h4,h9,h10,h12⟩:=hR
   have q0:=h0.out (hb 0 (by simp))
   have q1:=h1.out (hb 1 (by simp))
   have q2:=h2.out (hb 2 (by simp))
   have q3:=h3.out (hb 3 (by simp))
   have q4:=h4.out (hb 4 (by simp))
   have q10:=h10.out (hb 10 (by simp))
   have L:=hb 7 (by simp)
   have LL:Lst l 0∧Lst l 1∧Lst l 4∧Lst l 5:=⟨hb 0 (by simp),hb 1 (by simp),hb 4 (by simp),hb 5 (by simp)⟩
   have hS9:=hS.1.ne hn
   obtain ⟨A9,n9,hG9⟩:=hS.1
   have e9:=(hG9.s7 L).2
   have hP9:=zH ((hG9.s5 LL.2.2.2).2 hn)
   clear hb
   refine ⟨?_⟩
   simp only [pfs] at hK⊢
   (try simp only [q0,q1,q2,q3,q4,q10,e9] at hK)
   obtain ⟨cX,fX,zX⟩:=blk (KM.out W hS9)
   go_simp
   refine hK.out undef _ ⟨⟨ClrG.put hG9 (by omega) LL (KP.out _ _ W hS9 hP9.out),by simpa using hS.2⟩,h0.k,h1.k,h2.k,h3.k,h4.k,h9.k,h10.k,h12.k⟩
  refine StepsL.c 13 [8,11,0,1,2,3,4,5,6,7,8,9,10,11] (fun l f W hR hn hb K Q2 hK=>?_) ?_
  ·obtain ⟨hS,h0,h1,h2,h3,h4,h9,h10,h12⟩:=hR
   have q0:=h0.out (hb 0 (by simp))
   have q1:=h1.out (hb 1 (by simp))
   have q2:=h2.out (hb 2 (by simp))
   have q3:=h3.out (hb 3 (by simp))
   have q4:=h4.out (hb 4 (by simp))
   have q9:=h9.out (hb 9 (by simp))
   have q10:=h10.out (hb 10 (by simp))
   have L:=hb 8 (by simp)
   obtain ⟨A9,n9,hG9⟩:=hS.1
   have e9:=hG9.s8 L
   clear hb
   refine ⟨?_⟩
   simp only [pfs] at hK⊢
   (try simp only [q0,q1,q2,q3,q4,q9,q10,e9] at hK)
   go_simp
   refine hK.out _ _ ⟨⟨⟨A9,n9,hG9.step (by decide) (by decide) (fun c=>by omega) (fun c=>by omega) (fun c=>by omega)⟩,by simpa using hS.2⟩,h0.k,h1.k,h2.k,h3.k,h4.k,h9.k,h10.k,⟨fun _=>rfl⟩⟩
  exact StepsL.nil
 ·intro l f W hR hall
  obtain ⟨hS,h0,h1,h2,h3,h4,h9,h10,h12⟩:=hR
  have q0:=h0.out (hall 0 (by decide))
  have q1:=h1.out (hall 1 (by decide))
  have q2:=h2.out (hall 2 (by decide))
  have q3:=h3.out (hall 3 (by decide))
  have q4:=h4.out (hall 4 (by decide))
  have q9:=h9.out (hall 9 (by decide))
  have q10:=h10.out (hall 10 (by decide))
  have q12:=h12.out (hall 12 (by decide))
  clear h0 h1 h2 h3 h4 h9 h10 h12
  obtain ⟨A9,n9,hG9⟩:=hS.1
  obtain ⟨FK9,hM9,hE9,hF9⟩:=hG9.s11 (hall 11 (by decide))
  simp only [pfs]
  simp only [q12]
  exact hQ.out _ _ _ _ _ _ _ _ _ _ _ A9 n9 FK9 W hM9 hE9 hF9
theorem apartR5 (C:Code)(hC:C=apartR 5){B:Nat}{c:TCfg}{S:TCfgS}{sc:TScr}{Z:TScrS}{gm:Nat}{ds:List TDom}{last:List Int}{k:List (List TWay)}{F FL FK:Nat→Prop}{A:Option Addr}{n:Nat}{Al:Option Addr}{nl:Nat}{Ak:Option Addr}{nk:Nat}{Wb:World}{gb rr nn:Nat}{b0:Nat}(hM:MachW B c S sc Z gm ds last k F FL FK A n Al nl Ak nk Wb)(hbm:Wb.heap[gb]?=some (.cells #[.pointer (some ⟨gm,0,none⟩)] 61))(hbc:Wb.heap[b0]?=some (.cells #[.int .i64 c.sets,.int .i64 c.ways,.int .i64 c.doms,.int .i64 c.pad,.int .i64 c.quantum,.slice S.a0 c.slots.length S.n0,.slice S.a1 c.owners.length S.n1,.slice S.a2 c.chans.length S.n2,.slice S.a3 c.tasks.length S.n3] 27))(ok:CfgOk c){k1:List (List TWay)}(hk1:cache0 c=k1)
  {u0 u1 u3 u4 u6 u7 u8 u9 u10 u11 u12 u13 u14 u15 u16 u17 u18 u19 u20 u21 u22 u23 u24 u25 u26 u27 u28 u29 u30:Value} {Q:Exit→Act→World→Prop} (hLQ:¬ LetsOut Q)
  (hQ:∀(v15 v16 v17 v18 v19 v20 v21 v22:Value) (A9:Option Addr) (n9:Nat) (FK':Nat→Prop) (W':World),MachW B c S sc Z gm ds last k1 F FL FK' A n Al nl A9 n9 W'→MEff (fun b=>b=gm) Wb W'→(∀b,FK' b→Wb.heap.size≤b)→Q .normal ⟨[u0,u1,.pointer (some ⟨b0,0,none⟩),u3,u4,.pointer (some ⟨gb,0,none⟩),u6,u7,u8,u9,u10,u11,u12,u13,u14,v15,v16,v17,v18,v19,v20,v21,v22,u23,u24,u25,u26,u27,u28,u29,u30].toArray,[]⟩ W'):
  C.wpIn (Fence.wide.inRound rr) nn Tryd.prog Q ⟨[u0,u1,.pointer (some ⟨b0,0,none⟩),u3,u4,.pointer (some ⟨gb,0,none⟩),u6,u7,u8,u9,u10,u11,u12,u13,u14,u15,u16,u17,u18,u19,u20,u21,u22,u23,u24,u25,u26,u27,u28,u29,u30].toArray,[]⟩ Wb:=by
 subst hC
 replace hQ:=zH hQ
 conv=>arg 1;whnf
 have hgs:=hM.size
 have hz:=(blk hbm).2.2
 have hz0:=(blk hbc).2.2
 have hlo:=hM.lo
 have KB:=zH (fun W (h:Below Wb.heap.size Wb W)=>(blk ((h.block _ hz).trans hbm)).1 0)
 have K0:=zH (fun W (h:Below Wb.heap.size Wb W)=>(blk ((h.block _ hz0).trans hbc)).1 0)
 have K1:=zH (fun W (h:Below Wb.heap.size Wb W)=>(blk ((h.block _ hz0).trans hbc)).1 1)
 have KM:=zH (fun W (h:Below Wb.heap.size Wb W)=>(h.block _ hgs).trans hM.blk)
 have HE:=zH (fun W (h:Below Wb.heap.size Wb W)=>(emptyCall (c:=c) (by exact ok) W).mono
  fun e w' he=>(by obtain ⟨A9,n9,h1,h2,h3⟩:=he;rw [hk1] at*;exact ⟨A9,n9,h1,OSl.mono h2 fun b hb=>⟨by have:=h.size;have:=hb.1;omega,hb.2⟩,h.trans (h3.mono h.size)⟩:∃A9 n9,e=Ending.returned (.agg #[.slice A9 k1.length n9])∧OCache (Rng Wb.heap.size w'.heap.size) w' (.slice A9 k1.length n9) k1∧Below Wb.heap.size Wb w'))
 have KP:=zH (fun A9 n9 W (h:Below Wb.heap.size Wb W) (hK:OCache (Rng Wb.heap.size W.heap.size) W (.slice A9 k1.length n9) k1)=>(⟨_,hM.setCache h hK fun b hb=>hb,(MEff.ofBelow h).far (Below.setCell (Below.refl _ _) (Nat.zero_le _) _) (fun b hb=>Below.heap_setCell _ _ _ _ hb) (.inl rfl),fun b hb=>hb.1⟩:
  ∃FK',MachW B c S sc Z gm ds last k1 F FL FK' A n Al nl A9 n9 (W.setCell ⟨gm,14,none⟩ (.slice A9 k1.length n9))∧MEff (fun b=>b=gm) Wb (W.setCell ⟨gm,14,none⟩ (.slice A9 k1.length n9))∧∀b,FK' b→Wb.heap.size≤b))
 clear hM hk1 hbm hbc hlo ok
 refine wpR_region_inv [15,16,17,18,19,20,21,22] (fun l f W=>((¬ Lst l 8→Below Wb.heap.size Wb W)∧l.size=9)∧Fa l 0 (f 15= .pointer (some ⟨gm,0,none⟩))∧Fa l 1 (f 16= .pointer (some ⟨b0,0,none⟩))∧Fa l 2 (f 17= .int .i64 c.sets)∧Fa l 3 (f 18= .pointer (some ⟨b0,1,none⟩))∧Fa l 4 (f 19= .int .i64 c.ways)∧Fa l 5 (∃A9 n9,f 20= .agg #[.slice A9 k1.length n9]∧OCache (Rng Wb.heap.size W.heap.size) W (.slice A9 k1.length n9) k1)∧Fa l 6 (f 21= .pointer (some ⟨gm,0,none⟩))∧Fa l 7 (f 22= .pointer (some ⟨gm,14,none⟩))∧Fa l 8 (Lst l 0∧Lst l 2∧Lst l 4∧Lst l 5∧∃A9 n9 FK',MachW B c S sc Z gm ds last k1 F FL FK' A n Al nl A9 n9 W∧MEff (fun b=>b=gm) Wb W∧∀b,FK' b→Wb.heap.size≤b)) (by kernel_rfl) (by decide) (by kernel_rfl) (by kernel_rfl) hLQ (by intro s hs;simp at hs⊢;omega) ?_ ?_ ?_
 ·intro l hz hl
  exact ⟨⟨fun _=>(Below.refl _ _).drew,hz⟩,.no (hl 0),.no (hl 1),.no (hl 2),.no (hl 3),.no (hl 4),.no (hl 5),.no (hl 6),.no (hl 7),.no (hl 8)⟩
 ·refine StepsL.c 1 [] (fun l f W hR hn hb K Q2 hK=>?_) ?_
  ·obtain ⟨hS,h0,h1,h2,h3,h4,h5,h6,h7,h8⟩:=hR
   have hS9:=hS.1 fun h=>hn (h8.out h).1
   clear hb
   refine ⟨?_⟩
   simp only [pfs] at hK⊢
   have kb:=KB.out W hS9
   go_simp
   exact hK.out _ _ byK
  refine StepsL.c 2 [] byOp ?_
  refine StepsL.c 3 [1] (fun l f W hR hn hb K Q2 hK=>?_) ?_
  ·obtain ⟨hS,h0,h1,h2,h3,h4,h5,h6,h7,h8⟩:=hR
   have q1:=h1.out (hb 1 (by simp))
   have hS9:=hS.1 fun h=>hn (h8.out h).2.1
   clear hb
   refine ⟨?_⟩
   simp only [pfs] at hK⊢
   (try simp only [q1] at hK)
   have kb:=K0.out W hS9
   go_simp
   exact hK.out _ _ byK
  refine StepsL.c 4 [] byOp ?_
  refine StepsL.c 5 [3] (fun l f W hR hn hb K Q2 hK=>?_) ?_
  ·obtain ⟨hS,h0,h1,h2,h3,h4,h5,h6,h7,h8⟩:=hR
   have q3:=h3.out (hb 3 (by simp))
   have hS9:=hS.1 fun h=>hn (h8.out h).2.2.1
   clear hb
   refine ⟨?_⟩
   simp only [pfs] at hK⊢
   (try simp only [q3] at hK)
   have kb:=K1.out W hS9
   go_simp
   exact hK.out _ _ byK
  refine StepsL.c 6 [2,4] (fun l f W hR hn hb K Q2 hK=>?_) ?_
  ·obtain ⟨hS,h0,h1,h2,h3,h4,h5,h6,h7,h8⟩:=hR
   have q2:=h2.out (hb 2 (by simp))
   have q4:=h4.out (hb 4 (by simp))
   have hS9:=hS.1 fun h=>hn (h8.out h).2.2.2.1
   have HL:=HE.out W hS9
   clear hb
   refine ⟨?_⟩
   simp only [pfs] at hK⊢
   (try simp only [q2,q4] at hK)
   go_simp
   go_at_call 32
   refine HL.mono ?_
   clear HL
   rintro e w9 ⟨A9,n9,rfl,hK9,hb9⟩
   try dsimp only
   try simp only [Act.put,List.setIfInBounds_toArray,List.set_cons_zero,List.set_cons_succ]
   refine hK.out _ _ ⟨⟨fun _=>hb9,by simpa using hS.2⟩,h0.k,h1.k,h2.k,h3.k,h4.k,⟨fun _=>⟨A9,n9,rfl,hK9⟩⟩,h6.k,h7.k,⟨fun hl=>absurd (h8.out hl.b).2.2.2.1 hn⟩⟩
  refine StepsL.c 7 [0,0,1,2,3,4,5] (fun l f W hR hn hb K Q2 hK=>?_) ?_
  ·obtain ⟨hS,h0,h1,h2,h3,h4,h5,h6,h7,h8⟩:=hR
   have q0:=h0.out (hb 0 (by simp))
   have q1:=h1.out (hb 1 (by simp))
   have q2:=h2.out (hb 2 (by simp))
   have q3:=h3.out (hb 3 (by simp))
   have q4:=h4.out (hb 4 (by simp))
   have q5:=h5.out (hb 5 (by simp))
   clear hb
   refine ⟨?_⟩
   simp only [pfs] at hK⊢
   (try simp only [q0,q1,q2,q3,q4] at hK)
   go_simp
   exact hK.out _ _ byK
  refine StepsL.c 8 [6,0,1,2,3,4,5] (fun l f W hR hn hb K Q2 hK=>?_) ?_
  ·obtain ⟨hS,h0,h1,h2,h3,h4,h5,h6,h7,h8⟩:=hR
   have q0:=h0.out (hb 0 (by simp))
   have q1:=h1.out (hb 1 (by simp))
   have q2:=h2.out (hb 2 (by simp))
   have q3:=h3.out (hb 3 (by simp))
   have q4:=h4.out (hb 4 (by simp))
   have q5:=h5.out (hb 5 (by simp))
   have q6:=h6.out (hb 6 (by simp))
   clear hb
   refine ⟨?_⟩
   simp only [pfs] at hK⊢
   (try simp only [q0,q1,q2,q3,q4,q6] at hK)
   go_simp
   exact hK.out _ _ byK
  refine StepsL.c 9 [7,5,5,0,1,2,3,4,5] (fun l f W hR hn hb K Q2 hK=>?_) ?_
  ·obtain ⟨hS,h0,h1,h2,h3,h4,h5,h6,h7,h8⟩:=hR
   have q0:=h0.out (hb 0 (by simp))
   have q1:=h1.out (hb 1 (by simp))
   have q2:=h2.out (hb 2 (by simp))
   have q3:=h3.out (hb 3 (by simp))
   have q4:=h4.out (hb 4 (by simp))
   have q5:=h5.out (hb 5 (by simp))
   have q7:=h7.out (hb 7 (by simp))
   have hS9:=hS.1 hn
   obtain ⟨A9,n9,e9,hK9⟩:=q5
   replace hK9:=zH hK9
   have L0:=hb 0 (by simp)
   have L2:=hb 2 (by simp)
   have L4:=hb 4 (by simp)
   have L5:=hb 5 (by simp)
   clear hb
   refine ⟨?_⟩
   simp only [pfs] at hK⊢
   (try simp only [q0,q1,q2,q3,q4,q7,e9] at hK)
   obtain ⟨cX,fX,zX⟩:=blk (KM.out W hS9)
   go_simp
   refine hK.out undef _ ⟨⟨fun h=>absurd (Lst.self (by omega)) h,by simpa using hS.2⟩,h0.k,h1.k,h2.k,h3.k,h4.k,⟨fun hl=>(match (h5.out hl.b) with|⟨A9,n9,e,hK⟩=>⟨A9,n9,e,ocache_set hK hgs⟩)⟩,h6.k,h7.k,⟨fun _=>⟨L0.fwd,L2.fwd,L4.fwd,L5.fwd,A9,n9,KP.out _ _ W hS9 hK9.out⟩⟩⟩
  exact StepsL.nil
 ·intro l f W hR hall
  obtain ⟨hS,h0,h1,h2,h3,h4,h5,h6,h7,h8⟩:=hR
  have q0:=h0.out (hall 0 (by decide))
  have q1:=h1.out (hall 1 (by decide))
  have q2:=h2.out (hall 2 (by decide))
  have q3:=h3.out (hall 3 (by decide))
  have q4:=h4.out (hall 4 (by decide))
  have q5:=h5.out (hall 5 (by decide))
  have q6:=h6.out (hall 6 (by decide))
  have q7:=h7.out (hall 7 (by decide))
  have q8:=h8.out (hall 8 (by decide))
  clear h0 h1 h2 h3 h4 h5 h6 h7 h8
  obtain ⟨_,_,_,_,A9,n9,FK9,hM9,hE9,hF9⟩:=q8
  simp only [pfs]
  exact hQ.out _ _ _ _ _ _ _ _ A9 n9 FK9 W hM9 hE9 hF9
end Go.Proofs.YtinlmkhlgclbfabDoor
