/- TraceA TraceB -/
import Derived.Test.YtinlmkhlgclbfabDoorAs40
import Derived.Test.YtinlmkhlgclbfabDoorAs45
section
namespace Go.Proofs.YtinlmkhlgclbfabDoor
open Go.RowKit Go.Shelf
set_option maxRecDepth 1000000
set_option maxHeartbeats 4000000
def evLine (v:TEv):List UInt8:=((((((Lib.itoa v.t++[32])++Lib.itoa v.kind)++[32])++Lib.itoa v.a)++[32])++Lib.itoa v.b)++[10]
def traceOf (l:List TEv):List UInt8:=l.flatMap evLine
def isI64 (n:Int):Prop:= -9223372036854775808≤n∧n≤9223372036854775807
structure EvIn (v:TEv):Prop where
 t:isI64 v.t
 kind:isI64 v.kind
 a:isI64 v.a
 b:isI64 v.b
def bs (l:List UInt8):ByteArray:=⟨l.toArray⟩
theorem bs_size (l:List UInt8):(bs l).size=l.length:=rfl
theorem bs_app (l m:List UInt8):bs l++bs m=bs (l++m):=by
 apply ByteArray.ext
 simp [bs,ByteArray.data_append]
theorem itoa_len {n:Int}(h:isI64 n):(Lib.itoa n).length≤21:=Lib.itoa_length_le n h.1 h.2
theorem evLine_len {v:TEv}(h:EvIn v):(evLine v).length≤88:=by
 have h1:=itoa_len h.t
 have h2:=itoa_len h.kind
 have h3:=itoa_len h.a
 have h4:=itoa_len h.b
 simp only [evLine,List.length_append,List.length_cons,List.length_nil]
 omega
theorem strCells_bs (l:List UInt8):Lib.strCells (bs l)=Lib.byteCells l:=rfl
theorem bld_ext {T e:TypeId}{B b:Nat}{xs:List Value}{w w':World}(h:Lib.IsBuilder T e B b xs w)(hb:Below w.heap.size w w'):Lib.IsBuilder T e B b xs w':=by
 have key:∀p,Lib.BuilderAt T e B b p xs w→Lib.BuilderAt T e B b p xs w':=fun p ⟨h1,v,h2,h3,h4⟩=>⟨h1,v,(hb.block _ (blk h2).2.2).trans h2,h3.kept (row:=none) ⟨hb.os,hb.tape,hb.output,hb.size,fun k hk _=>hb.block k hk⟩ (Classical.em _),h4⟩
 rcases h with h|h
 ·exact .inl (key _ h)
 ·exact .inr (key _ h)
def slotRnT (k:Nat):Code→Option Code
 | .seq a b=>match slotRnT k a with
  |some c=>some c
  |none=>slotRnT k b
 | .cond _ a b=>match slotRnT k a with
  |some c=>some c
  |none=>slotRnT k b
 | .block _ c=>slotRnT k c
 | .loop c=>slotRnT k c
 | .region i o d=>if i==k then some (.region i o d) else none
 |_=>none
noncomputable def traceR (k:Nat):Code:=(Tryd.f15.body.bind (slotRnT k)).getD .skip
theorem catRun {P:Program}(l m:List UInt8)(h:l.length+m.length≤9223372036854775807)(w:World):(Op.stringOp .add (bs l) (bs m)).run P w= .ok (.string (bs (l++m))) w:=by
 rw [run_string_add_sum w _ _ (by rw [bs_size,bs_size];exact h),bs_app]
theorem catRunC {P:Program}(l:List UInt8)(c:UInt8)(h:l.length+1≤9223372036854775807)(w:World):(Op.stringOp .add (bs l) ⟨#[c]⟩).run P w= .ok (.string (bs (l++[c]))) w:=catRun l [c] h w
structure ClB (BL:List (List Nat)) (l:Array Bool):Prop where
 out:∀i j,Lst l i→j∈BL.getD i []→Lst l j
theorem ClB.step {BL:List (List Nat)}{l:Array Bool}(h:ClB BL l){i:Nat}(hb:∀j∈BL.getD i [],Lst l j):ClB BL (l.setIfInBounds i true):=⟨fun a j ha hj=>by
 by_cases e:i=a
 ·subst e;exact (hb j hj).fwd
 ·exact (h.out a j (ha.back e) hj).fwd⟩
def okPath (BL:List (List Nat)):Nat→List Nat→Bool
 |_,[]=>true
 |i,j::p=>(BL.getD i []).contains j&&okPath BL j p
theorem ClB.path {BL:List (List Nat)}{l:Array Bool}(h:ClB BL l):∀(p:List Nat) (i:Nat),Lst l i→okPath BL i p=true→Lst l (p.getLastD i):=by
 intro p
 induction p with
 |nil=>intro i hi _;exact hi
 |cons j p ih=>
  intro i hi hp
  simp only [okPath,Bool.and_eq_true,List.contains_iff_mem] at hp
  have:=ih j (h.out i j hi hp.1) hp.2
  cases p with
  |nil=>exact this
  |cons k p=>exact this
theorem traceR10 (C:Code)(hC:C=traceR 10){B gb gx:Nat}{wr:World}{v:TEv}{xs:List Value}(hev:Hid (EvIn v))(hx:Hid (wr.heap[gx]?=some (.cells #[.int .i64 v.t,.int .i64 v.kind,.int .i64 v.a,.int .i64 v.b] 79)))(hp:PowTab wr)(hBw:Hid (B≤wr.heap.size))(hbl:Lib.IsBuilder 91 5 B gb xs wr)(hlen:xs.length+88≤140737488355328)
  {u0 u1 u2 u3 u4 u5 u6 u7 u8 u9 u10 u12 u14 u15 u16 u17 u18 u19 u20 u21 u22 u23 u24 u25 u26 u27 u28 u29 u30 u31 u32 u33 u34 u35 u36 u37 u38 u39 u40 u41 u42 u43 u44 u45 u46 u47 u48 u49 u50 u51 u52 u53 u54 u55 u56 u57 u58 u59:Value} {Q:Exit→Act→World→Prop}
  (hQ:∀(v38 v39 v40 v41 v42 v43 v44 v45 v46 v47 v48 v49 v50 v51 v52 v53 v54 v55 v56 v57:Value) (W':World),Lib.IsBuilder 91 5 B gb (xs++Lib.byteCells (evLine v)) W'→Below B wr W'→Q .normal ⟨[u0,u1,u2,u3,u4,u5,u6,u7,u8,u9,u10,.pointer (some ⟨gb,0,none⟩),u12,.pointer (some ⟨gx,0,none⟩),u14,u15,u16,u17,u18,u19,u20,u21,u22,u23,u24,u25,u26,u27,u28,u29,u30,u31,u32,u33,u34,u35,u36,u37,v38,v39,v40,v41,v42,v43,v44,v45,v46,v47,v48,v49,v50,v51,v52,v53,v54,v55,v56,v57,u58,u59].toArray,[]⟩ W'):
  Code.wp Tryd.prog C Q ⟨[u0,u1,u2,u3,u4,u5,u6,u7,u8,u9,u10,.pointer (some ⟨gb,0,none⟩),u12,.pointer (some ⟨gx,0,none⟩),u14,u15,u16,u17,u18,u19,u20,u21,u22,u23,u24,u25,u26,u27,u28,u29,u30,u31,u32,u33,u34,u35,u36,u37,u38,u39,u40,u41,u42,u43,u44,u45,u46,u47,u48,u49,u50,u51,u52,u53,u54,u55,u56,u57,u58,u59].toArray,[]⟩ wr:=by
 subst hC
 replace hQ:=zH hQ
 conv=>arg 2;whnf
 have hgx:Hid (gx < wr.heap.size):=zH (blk hx.out).2.2
 have HE:=zH (fun W n (h:Below wr.heap.size wr W) (hn:isI64 n)=>(itoaCall n hn.1 hn.2 W (hp.next h):Calls Tryd.prog 27 #[.int .i64 n] W fun e w'=>e= .returned (.string (bs (Lib.itoa n)))∧Below W.heap.size W w'))
 have HLn:Hid ((Lib.itoa v.t).length≤21∧(Lib.itoa v.kind).length≤21∧(Lib.itoa v.a).length≤21∧(Lib.itoa v.b).length≤21):=zH ⟨itoa_len hev.out.t,itoa_len hev.out.kind,itoa_len hev.out.a,itoa_len hev.out.b⟩
 obtain ⟨l1,e_l1⟩:∃l,l=(Lib.itoa v.t)++[32]:=⟨_,rfl⟩
 have n_l1:=congrArg List.length e_l1
 simp only [List.length_append,List.length_cons,List.length_nil] at n_l1
 have HC3:=zH (fun w=>((catRunC (Lib.itoa v.t) 32 (by have:=HLn.out;omega) w).trans (by rw [e_l1]):(Op.stringOp .add (bs (Lib.itoa v.t)) ⟨#[32]⟩).run Tryd.prog w= .ok (.string (bs l1)) w))
 obtain ⟨l2,e_l2⟩:∃l,l=l1++(Lib.itoa v.kind):=⟨_,rfl⟩
 have n_l2:=congrArg List.length e_l2
 simp only [List.length_append,List.length_cons,List.length_nil] at n_l2
 have HC7:=zH (fun w=>((catRun l1 (Lib.itoa v.kind) (by have:=HLn.out;omega) w).trans (by rw [e_l2]):(Op.stringOp .add (bs l1) (bs (Lib.itoa v.kind))).run Tryd.prog w= .ok (.string (bs l2)) w))
 obtain ⟨l3,e_l3⟩:∃l,l=l2++[32]:=⟨_,rfl⟩
 have n_l3:=congrArg List.length e_l3
 simp only [List.length_append,List.length_cons,List.length_nil] at n_l3
 have HC8:=zH (fun w=>((catRunC l2 32 (by have:=HLn.out;omega) w).trans (by rw [e_l3]):(Op.stringOp .add (bs l2) ⟨#[32]⟩).run Tryd.prog w= .ok (.string (bs l3)) w))
 obtain ⟨l4,e_l4⟩:∃l,l=l3++(Lib.itoa v.a):=⟨_,rfl⟩
 have n_l4:=congrArg List.length e_l4
 simp only [List.length_append,List.length_cons,List.length_nil] at n_l4
 have HC12:=zH (fun w=>((catRun l3 (Lib.itoa v.a) (by have:=HLn.out;omega) w).trans (by rw [e_l4]):(Op.stringOp .add (bs l3) (bs (Lib.itoa v.a))).run Tryd.prog w= .ok (.string (bs l4)) w))
 obtain ⟨l5,e_l5⟩:∃l,l=l4++[32]:=⟨_,rfl⟩
 have n_l5:=congrArg List.length e_l5
 simp only [List.length_append,List.length_cons,List.length_nil] at n_l5
 have HC13:=zH (fun w=>((catRunC l4 32 (by have:=HLn.out;omega) w).trans (by rw [e_l5]):(Op.stringOp .add (bs l4) ⟨#[32]⟩).run Tryd.prog w= .ok (.string (bs l5)) w))
 obtain ⟨l6,e_l6⟩:∃l,l=l5++(Lib.itoa v.b):=⟨_,rfl⟩
 have n_l6:=congrArg List.length e_l6
 simp only [List.length_append,List.length_cons,List.length_nil] at n_l6
 have HC17:=zH (fun w=>((catRun l5 (Lib.itoa v.b) (by have:=HLn.out;omega) w).trans (by rw [e_l6]):(Op.stringOp .add (bs l5) (bs (Lib.itoa v.b))).run Tryd.prog w= .ok (.string (bs l6)) w))
 obtain ⟨l7,e_l7⟩:∃l,l=l6++[10]:=⟨_,rfl⟩
 have n_l7:=congrArg List.length e_l7
 simp only [List.length_append,List.length_cons,List.length_nil] at n_l7
 have HC18:=zH (fun w=>((catRunC l6 10 (by have:=HLn.out;omega) w).trans (by rw [e_l7]):(Op.stringOp .add (bs l6) ⟨#[10]⟩).run Tryd.prog w= .ok (.string (bs l7)) w))
 have hl7:evLine v=l7:=by unfold evLine;rw [e_l7,e_l6,e_l5,e_l4,e_l3,e_l2,e_l1]
 clear n_l1 n_l2 n_l3 n_l4 n_l5 n_l6 n_l7
 have HW:=zH (fun W (h:Below wr.heap.size wr W)=>show Calls Tryd.prog 26 #[.pointer (some ⟨gb,0,none⟩),.string (bs l7)] W fun e w'=>e=Ending.returned (.tuple #[.int .i64 (bs (evLine v)).size,.nilIface])∧Lib.BuilderAt 91 5 B gb (.pointer (some ⟨gb,0,none⟩)) (xs++Lib.byteCells (evLine v)) w'∧Below B W w' from hl7 ▸ (builderWrite B gb xs (bs (evLine v)) W (bld_ext hbl h) (by rw [bs_size];have:=evLine_len hev.out;omega) (Nat.le_trans hBw.out h.size)).mono fun e w' ⟨h1,h2,h3⟩=>(⟨h1,by rw [← strCells_bs];exact h2,h3⟩:
  e=Ending.returned (.tuple #[.int .i64 (bs (evLine v)).size,.nilIface])∧Lib.BuilderAt 91 5 B gb (.pointer (some ⟨gb,0,none⟩)) (xs++Lib.byteCells (evLine v)) w'∧Below B W w'))
 clear e_l7 e_l6 e_l5 e_l4 e_l3 e_l2 e_l1 hl7
 clear hp hbl
 refine wp_region_inv [38,39,40,41,42,43,44,45,46,47,48,49,50,51,52,53,54,55,56,57] (fun l f W=>((¬ Lst l 19→Below wr.heap.size wr W)∧l.size=20∧ClB [[],[0],[1],[2],[],[4],[5,2],[3,6],[7],[],[9],[10,6],[8,11],[12],[],[14],[15,11],[13,16],[17],[18,16]] l)∧Fa l 0 (f 38= .pointer (some ⟨gx,0,none⟩))∧Fa l 1 (f 39= .int .i64 v.t)∧Fa l 2 (f 40= .string (bs (Lib.itoa v.t)))∧Fa l 3 (f 41= .string (bs l1))∧Fa l 4 (f 42= .pointer (some ⟨gx,1,none⟩))∧Fa l 5 (f 43= .int .i64 v.kind)∧Fa l 6 (f 44= .string (bs (Lib.itoa v.kind)))∧Fa l 7 (f 45= .string (bs l2))∧Fa l 8 (f 46= .string (bs l3))∧Fa l 9 (f 47= .pointer (some ⟨gx,2,none⟩))∧Fa l 10 (f 48= .int .i64 v.a)∧Fa l 11 (f 49= .string (bs (Lib.itoa v.a)))∧Fa l 12 (f 50= .string (bs l4))∧Fa l 13 (f 51= .string (bs l5))∧Fa l 14 (f 52= .pointer (some ⟨gx,3,none⟩))∧Fa l 15 (f 53= .int .i64 v.b)∧Fa l 16 (f 54= .string (bs (Lib.itoa v.b)))∧Fa l 17 (f 55= .string (bs l6))∧Fa l 18 (f 56= .string (bs l7))∧Fa l 19 (Lib.IsBuilder 91 5 B gb (xs++Lib.byteCells (evLine v)) W∧Below B wr W)) (by kernel_rfl) (by decide) (by kernel_rfl) (by intro s hs;simp at hs⊢;omega) ?_ ?_ ?_
 ·intro l hz hl
  exact ⟨⟨fun _=>(Below.refl _ _).drew,hz,⟨fun i _ h=>absurd h (hl i)⟩⟩,.no (hl 0),.no (hl 1),.no (hl 2),.no (hl 3),.no (hl 4),.no (hl 5),.no (hl 6),.no (hl 7),.no (hl 8),.no (hl 9),.no (hl 10),.no (hl 11),.no (hl 12),.no (hl 13),.no (hl 14),.no (hl 15),.no (hl 16),.no (hl 17),.no (hl 18),.no (hl 19)⟩
 ·refine StepsL.c 1 [] (fun l f W hR hn hb K Q2 hK=>?_) ?_
  ·obtain ⟨hS,h0,h1,h2,h3,h4,h5,h6,h7,h8,h9,h10,h11,h12,h13,h14,h15,h16,h17,h18,h19⟩:=hR
   replace hb:=zH hb
   refine ⟨?_⟩
   simp only [pfs] at hK⊢
   go_simp
   refine hK.out _ _ ⟨⟨fun h=>hS.1 fun e=>h e.fwd,by simpa using hS.2.1,hS.2.2.step (i:=0) hb.out⟩,⟨fun _=>rfl⟩,h1.k,h2.k,h3.k,h4.k,h5.k,h6.k,h7.k,h8.k,h9.k,h10.k,h11.k,h12.k,h13.k,h14.k,h15.k,h16.k,h17.k,h18.k,h19.k⟩
  refine StepsL.c 2 [0] (fun l f W hR hn hb K Q2 hK=>?_) ?_
  ·obtain ⟨hS,h0,h1,h2,h3,h4,h5,h6,h7,h8,h9,h10,h11,h12,h13,h14,h15,h16,h17,h18,h19⟩:=hR
   have q0:=h0.out (hb 0 (by simp))
   have hS9:=hS.1 fun h=>hn (hS.2.2.path [16,11,6,2,1] 19 h rfl)
   replace hb:=zH hb
   refine ⟨?_⟩
   simp only [pfs] at hK⊢
   (try simp only [q0] at hK)
   have hbx:=(hS9.block _ hgx.out).trans hx.out
   obtain ⟨cX,fX,zX⟩:=blk hbx
   go_simp
   refine hK.out _ _ ⟨⟨fun h=>hS.1 fun e=>h e.fwd,by simpa using hS.2.1,hS.2.2.step (i:=1) hb.out⟩,h0.k,⟨fun _=>rfl⟩,h2.k,h3.k,h4.k,h5.k,h6.k,h7.k,h8.k,h9.k,h10.k,h11.k,h12.k,h13.k,h14.k,h15.k,h16.k,h17.k,h18.k,h19.k⟩
  refine StepsL.c 3 [1] (fun l f W hR hn hb K Q2 hK=>?_) ?_
  ·obtain ⟨hS,h0,h1,h2,h3,h4,h5,h6,h7,h8,h9,h10,h11,h12,h13,h14,h15,h16,h17,h18,h19⟩:=hR
   have q1:=h1.out (hb 1 (by simp))
   have hS9:=hS.1 fun h=>hn (hS.2.2.path [16,11,6,2] 19 h rfl)
   have HL:=HE.out W v.t hS9 hev.out.t
   replace hb:=zH hb
   refine ⟨?_⟩
   simp only [pfs] at hK⊢
   (try simp only [q1] at hK)
   go_simp
   go_at_call 27
   refine HL.mono ?_
   clear HL
   rintro e w9 ⟨rfl,hb9⟩
   try dsimp only
   try simp only [Act.put,List.setIfInBounds_toArray,List.set_cons_zero,List.set_cons_succ]
   refine hK.out _ _ ⟨⟨fun _=>hS9.trans (hb9.mono hS9.size),by simpa using hS.2.1,hS.2.2.step (i:=2) hb.out⟩,h0.k,h1.k,⟨fun _=>rfl⟩,h3.k,h4.k,h5.k,h6.k,h7.k,h8.k,h9.k,h10.k,h11.k,h12.k,h13.k,h14.k,h15.k,h16.k,h17.k,h18.k,⟨fun hl=>absurd (hS.2.2.path [16,11,6,2] 19 hl.b rfl) hn⟩⟩
  refine StepsL.c 4 [2] (fun l f W hR hn hb K Q2 hK=>?_) ?_
  ·obtain ⟨hS,h0,h1,h2,h3,h4,h5,h6,h7,h8,h9,h10,h11,h12,h13,h14,h15,h16,h17,h18,h19⟩:=hR
   have q2:=h2.out (hb 2 (by simp))
   replace hb:=zH hb
   refine ⟨?_⟩
   simp only [pfs] at hK⊢
   (try simp only [q2] at hK)
   have hr:=HC3.out
   go_simp
   refine hK.out _ _ ⟨⟨fun h=>hS.1 fun e=>h e.fwd,by simpa using hS.2.1,hS.2.2.step (i:=3) hb.out⟩,h0.k,h1.k,h2.k,⟨fun _=>rfl⟩,h4.k,h5.k,h6.k,h7.k,h8.k,h9.k,h10.k,h11.k,h12.k,h13.k,h14.k,h15.k,h16.k,h17.k,h18.k,h19.k⟩
  refine StepsL.c 5 [] (fun l f W hR hn hb K Q2 hK=>?_) ?_
  ·obtain ⟨hS,h0,h1,h2,h3,h4,h5,h6,h7,h8,h9,h10,h11,h12,h13,h14,h15,h16,h17,h18,h19⟩:=hR
   replace hb:=zH hb
   refine ⟨?_⟩
   simp only [pfs] at hK⊢
   go_simp
   refine hK.out _ _ ⟨⟨fun h=>hS.1 fun e=>h e.fwd,by simpa using hS.2.1,hS.2.2.step (i:=4) hb.out⟩,h0.k,h1.k,h2.k,h3.k,⟨fun _=>rfl⟩,h5.k,h6.k,h7.k,h8.k,h9.k,h10.k,h11.k,h12.k,h13.k,h14.k,h15.k,h16.k,h17.k,h18.k,h19.k⟩
  refine StepsL.c 6 [4] (fun l f W hR hn hb K Q2 hK=>?_) ?_
  ·obtain ⟨hS,h0,h1,h2,h3,h4,h5,h6,h7,h8,h9,h10,h11,h12,h13,h14,h15,h16,h17,h18,h19⟩:=hR
   have q4:=h4.out (hb 4 (by simp))
   have hS9:=hS.1 fun h=>hn (hS.2.2.path [16,11,6,5] 19 h rfl)
   replace hb:=zH hb
   refine ⟨?_⟩
   simp only [pfs] at hK⊢
   (try simp only [q4] at hK)
   have hbx:=(hS9.block _ hgx.out).trans hx.out
   obtain ⟨cX,fX,zX⟩:=blk hbx
   go_simp
   refine hK.out _ _ ⟨⟨fun h=>hS.1 fun e=>h e.fwd,by simpa using hS.2.1,hS.2.2.step (i:=5) hb.out⟩,h0.k,h1.k,h2.k,h3.k,h4.k,⟨fun _=>rfl⟩,h6.k,h7.k,h8.k,h9.k,h10.k,h11.k,h12.k,h13.k,h14.k,h15.k,h16.k,h17.k,h18.k,h19.k⟩
  refine StepsL.c 7 [5,2] (fun l f W hR hn hb K Q2 hK=>?_) ?_
  ·obtain ⟨hS,h0,h1,h2,h3,h4,h5,h6,h7,h8,h9,h10,h11,h12,h13,h14,h15,h16,h17,h18,h19⟩:=hR
   have q2:=h2.out (hb 2 (by simp))
   have q5:=h5.out (hb 5 (by simp))
   have hS9:=hS.1 fun h=>hn (hS.2.2.path [16,11,6] 19 h rfl)
   have HL:=HE.out W v.kind hS9 hev.out.kind
   replace hb:=zH hb
   refine ⟨?_⟩
   simp only [pfs] at hK⊢
   (try simp only [q2,q5] at hK)
   go_simp
   go_at_call 27
   refine HL.mono ?_
   clear HL
   rintro e w9 ⟨rfl,hb9⟩
   try dsimp only
   try simp only [Act.put,List.setIfInBounds_toArray,List.set_cons_zero,List.set_cons_succ]
   refine hK.out _ _ ⟨⟨fun _=>hS9.trans (hb9.mono hS9.size),by simpa using hS.2.1,hS.2.2.step (i:=6) hb.out⟩,h0.k,h1.k,h2.k,h3.k,h4.k,h5.k,⟨fun _=>rfl⟩,h7.k,h8.k,h9.k,h10.k,h11.k,h12.k,h13.k,h14.k,h15.k,h16.k,h17.k,h18.k,⟨fun hl=>absurd (hS.2.2.path [16,11,6] 19 hl.b rfl) hn⟩⟩
  refine StepsL.c 8 [3,6] (fun l f W hR hn hb K Q2 hK=>?_) ?_
  ·obtain ⟨hS,h0,h1,h2,h3,h4,h5,h6,h7,h8,h9,h10,h11,h12,h13,h14,h15,h16,h17,h18,h19⟩:=hR
   have q3:=h3.out (hb 3 (by simp))
   have q6:=h6.out (hb 6 (by simp))
   replace hb:=zH hb
   refine ⟨?_⟩
   simp only [pfs] at hK⊢
   (try simp only [q3,q6] at hK)
   have hr:=HC7.out
   go_simp
   refine hK.out _ _ ⟨⟨fun h=>hS.1 fun e=>h e.fwd,by simpa using hS.2.1,hS.2.2.step (i:=7) hb.out⟩,h0.k,h1.k,h2.k,h3.k,h4.k,h5.k,h6.k,⟨fun _=>rfl⟩,h8.k,h9.k,h10.k,h11.k,h12.k,h13.k,h14.k,h15.k,h16.k,h17.k,h18.k,h19.k⟩
  refine StepsL.c 9 [7] (fun l f W hR hn hb K Q2 hK=>?_) ?_
  ·obtain ⟨hS,h0,h1,h2,h3,h4,h5,h6,h7,h8,h9,h10,h11,h12,h13,h14,h15,h16,h17,h18,h19⟩:=hR
   have q7:=h7.out (hb 7 (by simp))
   replace hb:=zH hb
   refine ⟨?_⟩
   simp only [pfs] at hK⊢
   (try simp only [q7] at hK)
   have hr:=HC8.out
   go_simp
   refine hK.out _ _ ⟨⟨fun h=>hS.1 fun e=>h e.fwd,by simpa using hS.2.1,hS.2.2.step (i:=8) hb.out⟩,h0.k,h1.k,h2.k,h3.k,h4.k,h5.k,h6.k,h7.k,⟨fun _=>rfl⟩,h9.k,h10.k,h11.k,h12.k,h13.k,h14.k,h15.k,h16.k,h17.k,h18.k,h19.k⟩
  refine StepsL.c 10 [] (fun l f W hR hn hb K Q2 hK=>?_) ?_
  ·obtain ⟨hS,h0,h1,h2,h3,h4,h5,h6,h7,h8,h9,h10,h11,h12,h13,h14,h15,h16,h17,h18,h19⟩:=hR
   replace hb:=zH hb
   refine ⟨?_⟩
   simp only [pfs] at hK⊢
   go_simp
   refine hK.out _ _ ⟨⟨fun h=>hS.1 fun e=>h e.fwd,by simpa using hS.2.1,hS.2.2.step (i:=9) hb.out⟩,h0.k,h1.k,h2.k,h3.k,h4.k,h5.k,h6.k,h7.k,h8.k,⟨fun _=>rfl⟩,h10.k,h11.k,h12.k,h13.k,h14.k,h15.k,h16.k,h17.k,h18.k,h19.k⟩
  refine StepsL.c 11 [9] (fun l f W hR hn hb K Q2 hK=>?_) ?_
  ·obtain ⟨hS,h0,h1,h2,h3,h4,h5,h6,h7,h8,h9,h10,h11,h12,h13,h14,h15,h16,h17,h18,h19⟩:=hR
   have q9:=h9.out (hb 9 (by simp))
   have hS9:=hS.1 fun h=>hn (hS.2.2.path [16,11,10] 19 h rfl)
   replace hb:=zH hb
   refine ⟨?_⟩
   simp only [pfs] at hK⊢
   (try simp only [q9] at hK)
   have hbx:=(hS9.block _ hgx.out).trans hx.out
   obtain ⟨cX,fX,zX⟩:=blk hbx
   go_simp
   refine hK.out _ _ ⟨⟨fun h=>hS.1 fun e=>h e.fwd,by simpa using hS.2.1,hS.2.2.step (i:=10) hb.out⟩,h0.k,h1.k,h2.k,h3.k,h4.k,h5.k,h6.k,h7.k,h8.k,h9.k,⟨fun _=>rfl⟩,h11.k,h12.k,h13.k,h14.k,h15.k,h16.k,h17.k,h18.k,h19.k⟩
  refine StepsL.c 12 [10,6] (fun l f W hR hn hb K Q2 hK=>?_) ?_
  ·obtain ⟨hS,h0,h1,h2,h3,h4,h5,h6,h7,h8,h9,h10,h11,h12,h13,h14,h15,h16,h17,h18,h19⟩:=hR
   have q6:=h6.out (hb 6 (by simp))
   have q10:=h10.out (hb 10 (by simp))
   have hS9:=hS.1 fun h=>hn (hS.2.2.path [16,11] 19 h rfl)
   have HL:=HE.out W v.a hS9 hev.out.a
   replace hb:=zH hb
   refine ⟨?_⟩
   simp only [pfs] at hK⊢
   (try simp only [q6,q10] at hK)
   go_simp
   go_at_call 27
   refine HL.mono ?_
   clear HL
   rintro e w9 ⟨rfl,hb9⟩
   try dsimp only
   try simp only [Act.put,List.setIfInBounds_toArray,List.set_cons_zero,List.set_cons_succ]
   refine hK.out _ _ ⟨⟨fun _=>hS9.trans (hb9.mono hS9.size),by simpa using hS.2.1,hS.2.2.step (i:=11) hb.out⟩,h0.k,h1.k,h2.k,h3.k,h4.k,h5.k,h6.k,h7.k,h8.k,h9.k,h10.k,⟨fun _=>rfl⟩,h12.k,h13.k,h14.k,h15.k,h16.k,h17.k,h18.k,⟨fun hl=>absurd (hS.2.2.path [16,11] 19 hl.b rfl) hn⟩⟩
  refine StepsL.c 13 [8,11] (fun l f W hR hn hb K Q2 hK=>?_) ?_
  ·obtain ⟨hS,h0,h1,h2,h3,h4,h5,h6,h7,h8,h9,h10,h11,h12,h13,h14,h15,h16,h17,h18,h19⟩:=hR
   have q8:=h8.out (hb 8 (by simp))
   have q11:=h11.out (hb 11 (by simp))
   replace hb:=zH hb
   refine ⟨?_⟩
   simp only [pfs] at hK⊢
   (try simp only [q8,q11] at hK)
   have hr:=HC12.out
   go_simp
   refine hK.out _ _ ⟨⟨fun h=>hS.1 fun e=>h e.fwd,by simpa using hS.2.1,hS.2.2.step (i:=12) hb.out⟩,h0.k,h1.k,h2.k,h3.k,h4.k,h5.k,h6.k,h7.k,h8.k,h9.k,h10.k,h11.k,⟨fun _=>rfl⟩,h13.k,h14.k,h15.k,h16.k,h17.k,h18.k,h19.k⟩
  refine StepsL.c 14 [12] (fun l f W hR hn hb K Q2 hK=>?_) ?_
  ·obtain ⟨hS,h0,h1,h2,h3,h4,h5,h6,h7,h8,h9,h10,h11,h12,h13,h14,h15,h16,h17,h18,h19⟩:=hR
   have q12:=h12.out (hb 12 (by simp))
   replace hb:=zH hb
   refine ⟨?_⟩
   simp only [pfs] at hK⊢
   (try simp only [q12] at hK)
   have hr:=HC13.out
   go_simp
   refine hK.out _ _ ⟨⟨fun h=>hS.1 fun e=>h e.fwd,by simpa using hS.2.1,hS.2.2.step (i:=13) hb.out⟩,h0.k,h1.k,h2.k,h3.k,h4.k,h5.k,h6.k,h7.k,h8.k,h9.k,h10.k,h11.k,h12.k,⟨fun _=>rfl⟩,h14.k,h15.k,h16.k,h17.k,h18.k,h19.k⟩
  refine StepsL.c 15 [] (fun l f W hR hn hb K Q2 hK=>?_) ?_
  ·obtain ⟨hS,h0,h1,h2,h3,h4,h5,h6,h7,h8,h9,h10,h11,h12,h13,h14,h15,h16,h17,h18,h19⟩:=hR
   replace hb:=zH hb
   refine ⟨?_⟩
   simp only [pfs] at hK⊢
   go_simp
   refine hK.out _ _ ⟨⟨fun h=>hS.1 fun e=>h e.fwd,by simpa using hS.2.1,hS.2.2.step (i:=14) hb.out⟩,h0.k,h1.k,h2.k,h3.k,h4.k,h5.k,h6.k,h7.k,h8.k,h9.k,h10.k,h11.k,h12.k,h13.k,⟨fun _=>rfl⟩,h15.k,h16.k,h17.k,h18.k,h19.k⟩
  refine StepsL.c 16 [14] (fun l f W hR hn hb K Q2 hK=>?_) ?_
  ·obtain ⟨hS,h0,h1,h2,h3,h4,h5,h6,h7,h8,h9,h10,h11,h12,h13,h14,h15,h16,h17,h18,h19⟩:=hR
   have q14:=h14.out (hb 14 (by simp))
   have hS9:=hS.1 fun h=>hn (hS.2.2.path [16,15] 19 h rfl)
   replace hb:=zH hb
   refine ⟨?_⟩
   simp only [pfs] at hK⊢
   (try simp only [q14] at hK)
   have hbx:=(hS9.block _ hgx.out).trans hx.out
   obtain ⟨cX,fX,zX⟩:=blk hbx
   go_simp
   refine hK.out _ _ ⟨⟨fun h=>hS.1 fun e=>h e.fwd,by simpa using hS.2.1,hS.2.2.step (i:=15) hb.out⟩,h0.k,h1.k,h2.k,h3.k,h4.k,h5.k,h6.k,h7.k,h8.k,h9.k,h10.k,h11.k,h12.k,h13.k,h14.k,⟨fun _=>rfl⟩,h16.k,h17.k,h18.k,h19.k⟩
  refine StepsL.c 17 [15,11] (fun l f W hR hn hb K Q2 hK=>?_) ?_
  ·obtain ⟨hS,h0,h1,h2,h3,h4,h5,h6,h7,h8,h9,h10,h11,h12,h13,h14,h15,h16,h17,h18,h19⟩:=hR
   have q11:=h11.out (hb 11 (by simp))
   have q15:=h15.out (hb 15 (by simp))
   have hS9:=hS.1 fun h=>hn (hS.2.2.path [16] 19 h rfl)
   have HL:=HE.out W v.b hS9 hev.out.b
   replace hb:=zH hb
   refine ⟨?_⟩
   simp only [pfs] at hK⊢
   (try simp only [q11,q15] at hK)
   go_simp
   go_at_call 27
   refine HL.mono ?_
   clear HL
   rintro e w9 ⟨rfl,hb9⟩
   try dsimp only
   try simp only [Act.put,List.setIfInBounds_toArray,List.set_cons_zero,List.set_cons_succ]
   refine hK.out _ _ ⟨⟨fun _=>hS9.trans (hb9.mono hS9.size),by simpa using hS.2.1,hS.2.2.step (i:=16) hb.out⟩,h0.k,h1.k,h2.k,h3.k,h4.k,h5.k,h6.k,h7.k,h8.k,h9.k,h10.k,h11.k,h12.k,h13.k,h14.k,h15.k,⟨fun _=>rfl⟩,h17.k,h18.k,⟨fun hl=>absurd (hS.2.2.path [16] 19 hl.b rfl) hn⟩⟩
  refine StepsL.c 18 [13,16] (fun l f W hR hn hb K Q2 hK=>?_) ?_
  ·obtain ⟨hS,h0,h1,h2,h3,h4,h5,h6,h7,h8,h9,h10,h11,h12,h13,h14,h15,h16,h17,h18,h19⟩:=hR
   have q13:=h13.out (hb 13 (by simp))
   have q16:=h16.out (hb 16 (by simp))
   replace hb:=zH hb
   refine ⟨?_⟩
   simp only [pfs] at hK⊢
   (try simp only [q13,q16] at hK)
   have hr:=HC17.out
   go_simp
   refine hK.out _ _ ⟨⟨fun h=>hS.1 fun e=>h e.fwd,by simpa using hS.2.1,hS.2.2.step (i:=17) hb.out⟩,h0.k,h1.k,h2.k,h3.k,h4.k,h5.k,h6.k,h7.k,h8.k,h9.k,h10.k,h11.k,h12.k,h13.k,h14.k,h15.k,h16.k,⟨fun _=>rfl⟩,h18.k,h19.k⟩
  refine StepsL.c 19 [17] (fun l f W hR hn hb K Q2 hK=>?_) ?_
  ·obtain ⟨hS,h0,h1,h2,h3,h4,h5,h6,h7,h8,h9,h10,h11,h12,h13,h14,h15,h16,h17,h18,h19⟩:=hR
   have q17:=h17.out (hb 17 (by simp))
   replace hb:=zH hb
   refine ⟨?_⟩
   simp only [pfs] at hK⊢
   (try simp only [q17] at hK)
   have hr:=HC18.out
   go_simp
   refine hK.out _ _ ⟨⟨fun h=>hS.1 fun e=>h e.fwd,by simpa using hS.2.1,hS.2.2.step (i:=18) hb.out⟩,h0.k,h1.k,h2.k,h3.k,h4.k,h5.k,h6.k,h7.k,h8.k,h9.k,h10.k,h11.k,h12.k,h13.k,h14.k,h15.k,h16.k,h17.k,⟨fun _=>rfl⟩,h19.k⟩
  refine StepsL.c 20 [18,16] (fun l f W hR hn hb K Q2 hK=>?_) ?_
  ·obtain ⟨hS,h0,h1,h2,h3,h4,h5,h6,h7,h8,h9,h10,h11,h12,h13,h14,h15,h16,h17,h18,h19⟩:=hR
   have q16:=h16.out (hb 16 (by simp))
   have q18:=h18.out (hb 18 (by simp))
   have hS9:=hS.1 hn
   have HL:=HW.out W hS9
   replace hb:=zH hb
   refine ⟨?_⟩
   simp only [pfs] at hK⊢
   (try simp only [q16,q18] at hK)
   go_simp
   go_at_call 26
   refine HL.mono ?_
   clear HL
   rintro e w9 ⟨rfl,hB9,hb9⟩
   try dsimp only
   try simp only [Act.put,List.setIfInBounds_toArray,List.set_cons_zero,List.set_cons_succ]
   refine hK.out _ _ ⟨⟨fun h=>absurd (Lst.self (by omega)) h,by simpa using hS.2.1,hS.2.2.step (i:=19) hb.out⟩,h0.k,h1.k,h2.k,h3.k,h4.k,h5.k,h6.k,h7.k,h8.k,h9.k,h10.k,h11.k,h12.k,h13.k,h14.k,h15.k,h16.k,h17.k,h18.k,⟨fun _=>⟨.inr hB9,(hS9.mono hBw.out).trans hb9⟩⟩⟩
  exact StepsL.nil
 ·intro l f W hR hall
  obtain ⟨hS,h0,h1,h2,h3,h4,h5,h6,h7,h8,h9,h10,h11,h12,h13,h14,h15,h16,h17,h18,h19⟩:=hR
  have q0:=h0.out (hall 0 (by decide))
  have q1:=h1.out (hall 1 (by decide))
  have q2:=h2.out (hall 2 (by decide))
  have q3:=h3.out (hall 3 (by decide))
  have q4:=h4.out (hall 4 (by decide))
  have q5:=h5.out (hall 5 (by decide))
  have q6:=h6.out (hall 6 (by decide))
  have q7:=h7.out (hall 7 (by decide))
  have q8:=h8.out (hall 8 (by decide))
  have q9:=h9.out (hall 9 (by decide))
  have q10:=h10.out (hall 10 (by decide))
  have q11:=h11.out (hall 11 (by decide))
  have q12:=h12.out (hall 12 (by decide))
  have q13:=h13.out (hall 13 (by decide))
  have q14:=h14.out (hall 14 (by decide))
  have q15:=h15.out (hall 15 (by decide))
  have q16:=h16.out (hall 16 (by decide))
  have q17:=h17.out (hall 17 (by decide))
  have q18:=h18.out (hall 18 (by decide))
  have q19:=h19.out (hall 19 (by decide))
  clear h0 h1 h2 h3 h4 h5 h6 h7 h8 h9 h10 h11 h12 h13 h14 h15 h16 h17 h18 h19
  obtain ⟨hB9,hb9⟩:=q19
  simp only [pfs]
  exact hQ.out _ _ _ _ _ _ _ _ _ _ _ _ _ _ _ _ _ _ _ _ W hB9 hb9
end Go.Proofs.YtinlmkhlgclbfabDoor
end

section
namespace Go.Proofs.YtinlmkhlgclbfabDoor
open Go.RowKit
set_option maxRecDepth 100000
set_option maxHeartbeats 4000000
def traceRes (c:TCfg) (sc:TScr) (d:Int):List UInt8:=if readyErr c sc d=0 then traceOf (nth (machOf c sc).ds d.toNat).events else []
theorem traceOf_snoc (l:List TEv)(v:TEv):traceOf (l++[v])=traceOf l++evLine v:=by unfold traceOf;simp
theorem traceOf_len {l:List TEv}(h:∀i,i < l.length→EvIn (nth l i)):∀n,n≤l.length→(traceOf (l.take n)).length≤88*n:=by
 intro n
 induction n with
 |zero=>intro _;simp [traceOf]
 |succ n ih=>
  intro hn
  rw [take_snoc (by omega),traceOf_snoc,List.length_append]
  have:=ih (by omega)
  have:=evLine_len (h n (by omega))
  omega
theorem execTrace (c:TCfg)(S:TCfgS)(sc:TScr)(Z:TScrS)(d:Int)(hev:readyErr c sc d=0→∀i,i < (nth (machOf c sc).ds d.toNat).events.length→EvIn (nth (nth (machOf c sc).ds d.toNat).events i))(B:Nat)(w:World)(hB:B≤w.heap.size)(hs:TCfg.At (Low B) w c S)(hz:TScr.At (Low B) w sc Z)(hp:PowTab w):
  Calls Tryd.prog 15 #[.agg #[.int .i64 c.sets,.int .i64 c.ways,.int .i64 c.doms,.int .i64 c.pad,.int .i64 c.quantum,.slice S.a0 c.slots.length S.n0,.slice S.a1 c.owners.length S.n1,.slice S.a2 c.chans.length S.n2,.slice S.a3 c.tasks.length S.n3],.agg #[.slice Z.a0 sc.actions.length Z.n0,.slice Z.a1 sc.arrivals.length Z.n1,.int .i64 sc.rounds],.int .i64 d] w fun e w'=>e= .returned (.tuple #[.string (bs (traceRes c sc d)),.int .i64 (readyErr c sc d)])∧Below w.heap.size w w':=by
 have H1:=zH (fun W (h:Below w.heap.size w W)=>execRun c S sc Z B W (Nat.le_trans hB h.size) (hs.next hB h) (hz.next hB h))
 have HP:=zH (fun W (h:Below w.heap.size w W)=>hp.next h)
 by_cases e1:checkScript c sc=0
 ·have hok:=checkScript_ok e1
  have hdm:=hok.cfg.doms
  have H2:=zH (fun W=>configIsDomain c S d hdm.1 hdm.2 W)
  have R:readyErr c sc d=if isDom c.doms d=true then 0 else 5:=by unfold readyErr;rw [if_neg (by simp [e1])]
  have R1:execDs c sc=(machOf c sc).ds:=if_pos e1
  have hmk:=machUp_ok hok (slotsIn c sc) (Nat.le_refl _)
  have h48:=slotsIn_le hok
  rw [R1,e1] at H1
  cases e2:isDom c.doms d with
  |false=>
   have R2:readyErr c sc d=5:=by rw [R,e2];rfl
   have R3:traceRes c sc d=[]:=by unfold traceRes;rw [R2];rfl
   rw [R2,R3]
   rw [e2] at H2
   clear e1 e2 hs hz R R1 R2 R3 hev hmk hok
   generalize (machOf c sc).ds=ds at*
   generalize execMost c sc=mo at*
   go_enter Tryd.func15,Tryd.ntmps15
   go_wp2_with fail
   go_at_call 7
   refine (H1.out _ byB).mono ?_
   rintro e w1 ⟨A1,n1,rfl,hO1,hb1⟩
   have kc:w1.heap[w.heap.size]?=some (.cells #[.int .i64 c.sets,.int .i64 c.ways,.int .i64 c.doms,.int .i64 c.pad,.int .i64 c.quantum,.slice S.a0 c.slots.length S.n0,.slice S.a1 c.owners.length S.n1,.slice S.a2 c.chans.length S.n2,.slice S.a3 c.tasks.length S.n3] 27):=(hb1.block _ byS).trans byH
   obtain ⟨ccc,fcc,zcc⟩:=blk kc
   have h_w1:Below w.heap.size w w1:=byB
   go_wp2_with fail
   go_at_call 25
   refine (H2.out w1).mono ?_
   rintro e w2 ⟨rfl,hb2⟩
   have h_w2:Below w.heap.size w w2:=byB
   go_wp2_with fail
   refine bodyPost_ret (v:= .tuple #[.string ⟨#[]⟩,.int .i64 5]) (by simp [results,Tryd.results15,go_sem, *]) rfl ?_
   exact ⟨rfl,h_w2⟩
  |true=>
   have R2:readyErr c sc d=0:=by rw [R,e2];rfl
   have hd:=isDom_true.1 e2
   obtain ⟨dn,rfl⟩:=Int.eq_ofNat_of_zero_le hd.1
   have R3:traceRes c sc (dn:Nat)=traceOf (nth (machOf c sc).ds dn).events:=by unfold traceRes;rw [R2];rfl
   have hev':=hev R2
   rw [show ((dn:Nat):Int).toNat=dn from rfl] at hev'
   rw [R2,R3]
   rw [e2] at H2
   have hdl:dn < (machOf c sc).ds.length:=by have:=hmk.len;show dn < (machUp c sc (slotsIn c sc)).ds.length;omega
   have hel:(nth (machOf c sc).ds dn).events.length≤2160000:=by have:=hmk.ev dn hdl;show (nth (machUp c sc (slotsIn c sc)).ds dn).events.length≤_;omega
   clear e1 e2 hs hz R R1 R2 R3 hev hmk hok
   generalize (machOf c sc).ds=ds at*
   generalize execMost c sc=mo at*
   go_enter Tryd.func15,Tryd.ntmps15
   go_wp2_with fail
   go_at_call 7
   refine (H1.out _ byB).mono ?_
   rintro e w1 ⟨A1,n1,rfl,hO1,hb1⟩
   have kc:w1.heap[w.heap.size]?=some (.cells #[.int .i64 c.sets,.int .i64 c.ways,.int .i64 c.doms,.int .i64 c.pad,.int .i64 c.quantum,.slice S.a0 c.slots.length S.n0,.slice S.a1 c.owners.length S.n1,.slice S.a2 c.chans.length S.n2,.slice S.a3 c.tasks.length S.n3] 27):=(hb1.block _ byS).trans byH
   obtain ⟨ccc,fcc,zcc⟩:=blk kc
   have h_w1:Below w.heap.size w w1:=byB
   go_wp2_with fail
   go_at_call 25
   refine (H2.out w1).mono ?_
   rintro e w2 ⟨rfl,hb2⟩
   have h_w2:Below w.heap.size w w2:=byB
   have hO2:Sl cDom (Rng w.heap.size w1.heap.size) w2 A1 n1 ds:=(Sl.mono (DomsO.at hO1) fun b hb=>(⟨by have:=hb.1;simp at this;omega,hb.2⟩:Rng w.heap.size w1.heap.size b)).keep fun b hb=>hb2.block b hb.2
   obtain ⟨b,o,T,rfl,hI,k0,k1,k2,k3,k4,k5,k6,hT⟩:=hO2.at_dom hdl
   obtain ⟨t0,m0,t1,m1,t2,m2,t3,m3,t4,m4,t5,m5⟩:=T
   dsimp only at k0 k1 k2 k3 k4 k5 k6
   have j0:(0:Int)≤(dn:Nat):=hd.1
   have j1:((dn:Nat):Int) < ds.length:=by omega
   have hz2:=hb2.size
   have lb:b < w2.heap.size:=Nat.lt_of_lt_of_le hI.2 hz2
   have hE5:Sl cEv (Rng w.heap.size w1.heap.size) w2 t5 m5 (nth ds dn).events:=hT.s5
   generalize hdd:nth ds dn=dd at*
   replace hdd:=zH hdd
   have hbw:Below w2.heap.size w2 (w2.alloc (.cells #[.pointer none,.slice none 0 0] 91)):=byB
   have hbl0:=Lib.fresh_isBuilder 91 5 w2
   have hwz:(w2.alloc (.cells #[.pointer none,.slice none 0 0] 91)).heap.size=w2.heap.size+1:=by simp
   clear H1 H2 kc ccc fcc zcc hO1 hO2 hb1
   have hb2':=hb2
   clear hb2
   go_wp2_with fail
   generalize (w2.alloc (.cells #[.pointer none,.slice none 0 0] 91))=W1 at*
   obtain ⟨gb,hgb⟩:∃g,g=w2.heap.size:=⟨_,rfl⟩
   rw [← hgb] at hbl0 hwz hbw hz2 lb⊢
   have hE6:Sl cEv (Low gb) W1 t5 m5 dd.events:=(hE5.mono fun b hb=>(Nat.lt_of_lt_of_le hb.2 hz2:Low gb b)).keep fun b hb=>hbw.block b hb
   have hgw:w.heap.size≤gb:=by have:=h_w2.size;omega
   have hw2W:Below w.heap.size w W1:=h_w2.trans (hbw.mono hgw)
   have hgB:Hid (gb≤W1.heap.size):=zH (by omega)
   have hbd:=zH (⟨hE6,hw2W,hel,hgw⟩:_∧_∧_∧_)
   replace hev':=zH hev'
   clear hE5 hb2' hz2 hgb hI hT k0 k1 k2 k3 k4 k5 k6 h_w1 h_w2 hE6 hw2W hgw hbw
   generalize hes:dd.events=es at*
   replace hes:=zH hes
   go_loopw [34] (fun iv wr=>∃i:Nat,i≤es.length∧iv= .int .i64 i∧Hid (Lib.IsBuilder 91 5 gb gb (Lib.byteCells (traceOf (es.take i))) wr)∧Below gb W1 wr) (fun iv _=>es.length - (intOf iv).toNat)
   case atStart=>exact ⟨0,Nat.zero_le _,rfl,zH hbl0,Below.refl _ _⟩
   case round=>
    obtain ⟨i,hi,rfl,hbl,hbr⟩:=hrel
    have hrz:=hbr.size
    obtain ⟨hE6,hw2W,hel,hgw⟩:=hbd.out
    by_cases hlt:i < es.length
    ·have hi0:(0:Int)≤i:=by omega
     have hi1:(i:Int) < es.length:=by omega
     obtain ⟨be,oe,rfl,hIe,q0,q1,q2,q3⟩:=(hE6.keep fun b hb=>hbr.block b hb).at_ev hlt
     have hvv:=zH (hev'.out i hlt)
     have hsn:traceOf (es.take (i+1))=traceOf (es.take i)++evLine (nth es i):=by rw [take_snoc hlt,traceOf_snoc]
     have hln:(Lib.byteCells (traceOf (es.take i))).length+88≤140737488355328:=by
      rw [Lib.byteCells_length]
      have:=traceOf_len hev'.out i hi
      omega
     have hPr:=HP.out wr (hw2W.trans (hbr.mono hgw))
     replace hsn:=zH hsn
     have hbe:Below wr.heap.size wr (wr.alloc (.cells #[.int .i64 (nth es i).t,.int .i64 (nth es i).kind,.int .i64 (nth es i).a,.int .i64 (nth es i).b] 79)):=byB
     have hx2:Hid ((wr.alloc (.cells #[.int .i64 (nth es i).t,.int .i64 (nth es i).kind,.int .i64 (nth es i).a,.int .i64 (nth es i).b] 79)).heap[wr.heap.size]?=some (.cells #[.int .i64 (nth es i).t,.int .i64 (nth es i).kind,.int .i64 (nth es i).a,.int .i64 (nth es i).b] 79)):=zH (heap_alloc_new _ _)
     have hP2:=hPr.next hbe
     have hbl2:=bld_ext hbl.out hbe
     have hB2:Hid (gb≤(wr.alloc (.cells #[.int .i64 (nth es i).t,.int .i64 (nth es i).kind,.int .i64 (nth es i).a,.int .i64 (nth es i).b] 79)).heap.size):=zH (by have:=hgB.out;simp;omega)
     have hbr2:=hbr.trans (hbe.mono (by have:=hgB.out;omega))
     clear hbl hbr hPr hE6 hw2W hel hgw
     go_upto_region 10 with (fail)
     refine traceR10 _ (by kernel_rfl) hvv hx2 hP2 hB2 hbl2 hln ?_
     intro _ _ _ _ _ _ _ _ _ _ _ _ _ _ _ _ _ _ _ _ W9 hB9 hb9
     have hbl9:Lib.IsBuilder 91 5 gb gb (Lib.byteCells (traceOf (es.take (i+1)))) W9:=by
      rw [hsn.out,Lib.byteCells_append];exact hB9
     have hbr9:=hbr2.trans hb9
     replace hbl9:=zH hbl9
     clear hB9 hb9 hbr2 hbl2 hP2
     go_wp2_with fail
     go_roundw
     case rel=>exact ⟨i+1,by omega,by go_num,hbl9,hbr9⟩
     case measure=>simp [intOf];omega
    ·obtain rfl:i=es.length:=by omega
     have hb0:=hbl.out
     rw [List.take_length] at hb0
     have HS:=builderString gb gb (traceOf es) wr hb0 (by have:=hgB.out;omega)
     have hfin:=(hw2W.trans (hbr.mono hgw))
     clear hbl hb0 hbr hE6 hw2W
     go_wp2_with fail
     go_at_call 28
     refine HS.mono ?_
     rintro e w9 ⟨rfl,hb9⟩
     have hb09:=hfin.trans (hb9.mono hgw)
     clear HS hb9 hfin
     go_wp2_with fail
     refine bodyPost_ret (v:= .tuple #[.string ⟨(traceOf es).toArray⟩,.int .i64 0]) (by simp [results,Tryd.results15,go_sem, *]) rfl ?_
     exact ⟨by rw [hdd.out,hes.out];rfl,hb09⟩
 ·have R:readyErr c sc d=checkScript c sc:=by unfold readyErr;rw [if_pos e1]
  have R3:traceRes c sc d=[]:=by unfold traceRes;rw [R,if_neg e1]
  have R4:execDs c sc=[]:=if_neg e1
  rw [R,R3]
  rw [R4] at H1
  have b1:(checkScript c sc !=0)=true:=by simp [e1]
  clear R R3 R4 e1 hev
  generalize checkScript c sc=CE at*
  generalize execMost c sc=mo at*
  go_enter Tryd.func15,Tryd.ntmps15
  go_wp2_with fail
  go_at_call 7
  refine (H1.out _ byB).mono ?_
  rintro e w1 ⟨A1,n1,rfl,hO1,hb1⟩
  have h_w1:Below w.heap.size w w1:=byB
  go_wp2_with fail
  refine bodyPost_ret (v:= .tuple #[.string ⟨#[]⟩,.int .i64 CE]) (by simp [results,Tryd.results15,go_sem, *]) rfl ?_
  exact ⟨rfl,h_w1⟩
end Go.Proofs.YtinlmkhlgclbfabDoor
end
