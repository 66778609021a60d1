/- SlotC -/
import Derived.Test.YtinlmkhlgclbfabDoorAs31
namespace Go.Proofs.YtinlmkhlgclbfabDoor
open Go.RowKit
set_option maxRecDepth 1000000
set_option maxHeartbeats 4000000
structure RawG (Wb:World) (gb:Nat) (d1 d2:TDom) (T1:TDomS) (kv:Value) (P:TDomS→(Nat→Nat→Prop)→World→Prop) (l:Array Bool) (f:Nat→Value) (W:World) (T:TDomS) (G:Nat→Nat→Prop):Prop where
 ne:¬ Lst l 21→Below Wb.heap.size Wb W
 o:Lst l 21→Lst l 6
 o25:Lst l 25→Lst l 21
 s21:Lst l 21→f 90= .tuple #[.agg #[.slice T.a0 d2.jobs.length T.n0,.slice T.a1 d2.released.length T.n1,.int .i64 d2.next,.slice T.a2 d2.ins.length T.n2,.slice T.a3 d2.taken.length T.n3,.slice T.a4 d2.outs.length T.n4,.slice T.a5 d2.events.length T.n5],kv]∧P T G W∧∀j,¬ G j gb
 s22:Lst l 22→Lst l 21∧f 68= .tuple #[.agg #[.slice T.a0 d2.jobs.length T.n0,.slice T.a1 d2.released.length T.n1,.int .i64 d2.next,.slice T.a2 d2.ins.length T.n2,.slice T.a3 d2.taken.length T.n3,.slice T.a4 d2.outs.length T.n4,.slice T.a5 d2.events.length T.n5],kv]
 s23:Lst l 23→Lst l 21∧f 91= .agg #[.slice T.a0 d2.jobs.length T.n0,.slice T.a1 d2.released.length T.n1,.int .i64 d2.next,.slice T.a2 d2.ins.length T.n2,.slice T.a3 d2.taken.length T.n3,.slice T.a4 d2.outs.length T.n4,.slice T.a5 d2.events.length T.n5]
 s24:Lst l 24→f 92=kv
 bx:∃xs,W.heap[gb]?=some (.cells xs 46)∧(¬ Lst l 25→xs=#[.slice T1.a0 d1.jobs.length T1.n0,.slice T1.a1 d1.released.length T1.n1,.int .i64 d1.next,.slice T1.a2 d1.ins.length T1.n2,.slice T1.a3 d1.taken.length T1.n3,.slice T1.a4 d1.outs.length T1.n4,.slice T1.a5 d1.events.length T1.n5])∧(Lst l 25→xs=#[.slice T.a0 d2.jobs.length T.n0,.slice T.a1 d2.released.length T.n1,.int .i64 d2.next,.slice T.a2 d2.ins.length T.n2,.slice T.a3 d2.taken.length T.n3,.slice T.a4 d2.outs.length T.n4,.slice T.a5 d2.events.length T.n5])
def RawS (Wb:World) (gb:Nat) (d1 d2:TDom) (T1:TDomS) (kv:Value) (P:TDomS→(Nat→Nat→Prop)→World→Prop) (l:Array Bool) (f:Nat→Value) (W:World):Prop:=∃T G,RawG Wb gb d1 d2 T1 kv P l f W T G
section
variable {Wb W W' : World} {gb : Nat} {d1 d2 : TDom} {T1 T : TDomS} {G : Nat → Nat → Prop} {kv : Value} {P : TDomS → (Nat → Nat → Prop) → World → Prop} {l : Array Bool} {f : Nat → Value}
theorem rawS_start (hl:∀i,¬ Lst l i)(hb:Below Wb.heap.size Wb W)(hx:W.heap[gb]?=some (.cells #[.slice T1.a0 d1.jobs.length T1.n0,.slice T1.a1 d1.released.length T1.n1,.int .i64 d1.next,.slice T1.a2 d1.ins.length T1.n2,.slice T1.a3 d1.taken.length T1.n3,.slice T1.a4 d1.outs.length T1.n4,.slice T1.a5 d1.events.length T1.n5] 46)):RawS Wb gb d1 d2 T1 kv P l f W:=
 ⟨T1,fun _ _=>False,fun _=>hb,fun h=>absurd h (hl _),fun h=>absurd h (hl _),fun h=>absurd h (hl _),fun h=>absurd h (hl _),fun h=>absurd h (hl _),fun h=>absurd h (hl _),_,hx,fun _=>rfl,fun h=>absurd h (hl _)⟩
theorem RawS.ne (h:RawS Wb gb d1 d2 T1 kv P l f W)(hn:¬ Lst l 21):Below Wb.heap.size Wb W:=by obtain ⟨T,G,h⟩:=h;exact h.ne hn
theorem RawS.o (h:RawS Wb gb d1 d2 T1 kv P l f W)(hn:Lst l 21):Lst l 6:=by obtain ⟨T,G,h⟩:=h;exact h.o hn
theorem RawS.bx (h:RawS Wb gb d1 d2 T1 kv P l f W)(hn:¬ Lst l 25):W.heap[gb]?=some (.cells #[.slice T1.a0 d1.jobs.length T1.n0,.slice T1.a1 d1.released.length T1.n1,.int .i64 d1.next,.slice T1.a2 d1.ins.length T1.n2,.slice T1.a3 d1.taken.length T1.n3,.slice T1.a4 d1.outs.length T1.n4,.slice T1.a5 d1.events.length T1.n5] 46):=by
 obtain ⟨T,G,h⟩:=h
 obtain ⟨xs,h1,h2,-⟩:=h.bx
 rw [h1,h2 hn]
theorem RawS.n25 (h:RawS Wb gb d1 d2 T1 kv P l f W)(hn:¬ Lst l 21):¬ Lst l 25:=by obtain ⟨T,G,h⟩:=h;exact fun e=>hn (h.o25 e)
theorem RawS.at (h:RawS Wb gb d1 d2 T1 kv P l f W){p:World→Prop}(h0:∀W,Below Wb.heap.size Wb W→p W)(h1:∀T G W,P T G W→p W):p W:=by
 obtain ⟨T,G,h⟩:=h
 by_cases e:Lst l 21
 ·exact h1 _ _ _ (h.s21 e).2.1
 ·exact h0 _ (h.ne e)
theorem RawG.step (h:RawG Wb gb d1 d2 T1 kv P l f W T G){i dd:Nat}{v:Value}(hi:i≠21∧i≠25)(hd:dd≠90)(e22:i=22∨dd=68→i=22∧dd=68∧Lst l 21∧v= .tuple #[.agg #[.slice T.a0 d2.jobs.length T.n0,.slice T.a1 d2.released.length T.n1,.int .i64 d2.next,.slice T.a2 d2.ins.length T.n2,.slice T.a3 d2.taken.length T.n3,.slice T.a4 d2.outs.length T.n4,.slice T.a5 d2.events.length T.n5],kv])(e23:i=23∨dd=91→i=23∧dd=91∧Lst l 21∧v= .agg #[.slice T.a0 d2.jobs.length T.n0,.slice T.a1 d2.released.length T.n1,.int .i64 d2.next,.slice T.a2 d2.ins.length T.n2,.slice T.a3 d2.taken.length T.n3,.slice T.a4 d2.outs.length T.n4,.slice T.a5 d2.events.length T.n5])(e24:i=24∨dd=92→i=24∧dd=92∧v=kv):
  RawG Wb gb d1 d2 T1 kv P (l.setIfInBounds i true) (upd f (some dd) v) W T G:=by
 refine ⟨fun a=>h.ne fun c=>a c.fwd,fun a=>(h.o (a.back hi.1)).fwd,fun a=>(h.o25 (a.back hi.2)).fwd,fun a=>?_,fun a=>?_,fun a=>?_,fun a=>?_,?_⟩
 ·rw [upd_ne f _ (Ne.symm hd)];exact h.s21 (a.back hi.1)
 ·by_cases c:i=22∨dd=68
  ·obtain ⟨-,rfl,h1,rfl⟩:=e22 c;exact ⟨h1.fwd,upd_at _ _ _⟩
  ·rw [upd_ne f _ (show 68≠dd by omega)];exact ⟨(h.s22 (a.back (by omega))).1.fwd,(h.s22 (a.back (by omega))).2⟩
 ·by_cases c:i=23∨dd=91
  ·obtain ⟨-,rfl,h1,rfl⟩:=e23 c;exact ⟨h1.fwd,upd_at _ _ _⟩
  ·rw [upd_ne f _ (show 91≠dd by omega)];exact ⟨(h.s23 (a.back (by omega))).1.fwd,(h.s23 (a.back (by omega))).2⟩
 ·by_cases c:i=24∨dd=92
  ·obtain ⟨-,rfl,rfl⟩:=e24 c;exact upd_at _ _ _
  ·rw [upd_ne f _ (show 92≠dd by omega)];exact h.s24 (a.back (by omega))
 ·obtain ⟨xs,h1,h2,h3⟩:=h.bx
  exact ⟨xs,h1,fun a=>h2 fun c=>a c.fwd,fun a=>h3 (a.back hi.2)⟩
theorem RawS.skip (h:RawS Wb gb d1 d2 T1 kv P l f W){i dd:Nat}(hi:i ∉ [21,22,23,24,25]:=by decide)(hd:dd ∉ [68,90,91,92]:=by decide)(v:Value):RawS Wb gb d1 d2 T1 kv P (l.setIfInBounds i true) (upd f (some dd) v) W:=by
 obtain ⟨T,G,h⟩:=h
 simp only [List.mem_cons,List.not_mem_nil,or_false,not_or] at hi hd
 exact ⟨T,G,h.step ⟨hi.1,hi.2.2.2.2⟩ hd.2.1 (fun c=>by omega) (fun c=>by omega) (fun c=>by omega)⟩
theorem RawS.call (h:RawS Wb gb d1 d2 T1 kv P l f W)(hz:21 < l.size)(hn:¬ Lst l 21)(h6:Lst l 6){T:TDomS}{G:Nat→Nat→Prop}(hP:P T G W')(hg:∀j,¬ G j gb)(hx:W'.heap[gb]?=W.heap[gb]?):RawS Wb gb d1 d2 T1 kv P (l.setIfInBounds 21 true) (upd f (some 90) (.tuple #[.agg #[.slice T.a0 d2.jobs.length T.n0,.slice T.a1 d2.released.length T.n1,.int .i64 d2.next,.slice T.a2 d2.ins.length T.n2,.slice T.a3 d2.taken.length T.n3,.slice T.a4 d2.outs.length T.n4,.slice T.a5 d2.events.length T.n5],kv])) W':=by
 have h25:=h.n25 hn
 have hb:=h.bx h25
 obtain ⟨_,_,h⟩:=h
 have self:Lst (l.setIfInBounds 21 true) 21:=Lst.self hz
 refine ⟨T,G,fun a=>absurd self a,fun _=>h6.fwd,fun _=>self,fun _=>⟨upd_at _ _ _,hP,hg⟩,fun a=>absurd (h.s22 a.b).1 hn,fun a=>absurd (h.s23 a.b).1 hn,fun a=>?_,_,hx.trans hb,fun _=>rfl,fun a=>absurd a.b h25⟩
 rw [upd_ne f _ (show 92≠90 by decide)]
 exact h.s24 a.b
theorem RawS.put (h:RawG Wb gb d1 d2 T1 kv P l f W T G)(hz:25 < l.size)(h23:Lst l 23)(hP:P T G W')(hx:W'.heap[gb]?=some (.cells #[.slice T.a0 d2.jobs.length T.n0,.slice T.a1 d2.released.length T.n1,.int .i64 d2.next,.slice T.a2 d2.ins.length T.n2,.slice T.a3 d2.taken.length T.n3,.slice T.a4 d2.outs.length T.n4,.slice T.a5 d2.events.length T.n5] 46)){v:Value} :RawS Wb gb d1 d2 T1 kv P (l.setIfInBounds 25 true) (upd f none v) W':=by
 have self:Lst (l.setIfInBounds 25 true) 25:=Lst.self hz
 have h21:=(h.s23 h23).1
 have e:upd f none v=f:=by funext k;simp [upd]
 rw [e]
 exact ⟨T,G,fun a=>absurd h21.fwd a,fun _=>(h.o h21).fwd,fun _=>h21.fwd,fun _=>⟨(h.s21 h21).1,hP,(h.s21 h21).2.2⟩,fun a=>⟨h21.fwd,(h.s22 a.b).2⟩,fun _=>⟨h21.fwd,(h.s23 h23).2⟩,fun a=>h.s24 a.b,_,hx,fun a=>absurd self a,fun _=>rfl⟩
end
theorem slotR4 (C:Code)(hC:C=slotR 4){B:Nat}{c:TCfg}{S:TCfgS}{sc:TScr}{Z:TScrS}{gm:Nat}{m:Nat}{last:List Int}{k:List (List TWay)}{F FL FK:Nat→Prop}{A:Option Addr}{n:Nat}{Al:Option Addr}{nl:Nat}{Ak:Option Addr}{nk:Nat}{Wb W0:World}{gb dn:Nat}{start to_:Int}{d1:TDom}{T1:TDomS}{G1:Nat→Nat→Prop}{Gi:Nat→Prop}(ok:CfgOk c)(hM:MachT B c S sc Z gm m last k F FL FK A n Al nl Ak nk Gi W0 d1 T1 G1 Wb)(hdn:dn < sc.actions.length)(hbx:Wb.heap[gb]?=some (.cells #[.slice T1.a0 d1.jobs.length T1.n0,.slice T1.a1 d1.released.length T1.n1,.int .i64 d1.next,.slice T1.a2 d1.ins.length T1.n2,.slice T1.a3 d1.taken.length T1.n3,.slice T1.a4 d1.outs.length T1.n4,.slice T1.a5 d1.events.length T1.n5] 46))(hgb:Hid (W0.heap.size≤gb))(hg1:∀j,¬ G1 j gb)(hMl:Hid (∀b,F b∨FL b∨FK b→b < W0.heap.size))(hgm:Hid (gm < W0.heap.size))
  (hl:(nth sc.actions dn).length≤60) (ha:∀i,i < (nth sc.actions dn).length→ActOk (nth (nth sc.actions dn) i)) (ht:to_≤100000) (h0:WinIn c (dn:Nat) to_ ⟨start,d1,k⟩) (hev:d1.events.length≤4194304) (ho:∀j,(nth d1.outs j).length≤4194304) (hkl:(windowK c (dn:Nat) d1 k (nth sc.actions dn) start to_).length=k.length)
  {u1 u3 u4 u5 u9 u10 u11 u12 u13 u14 u15 u16 u17 u18 u19 u20 u21 u22 u23 u24 u25 u26 u27 u28 u29 u30 u31 u32 u33 u34 u35 u36 u37 u38 u39 u40 u41 u42 u43 u44 u45 u46 u47 u48 u49 u50 u51 u52 u53 u54 u55 u56 u57 u58 u59 u60 u61 u62 u63 u64 u65 u66 u67 u68 u69 u70 u71 u72 u73 u74 u75 u76 u77 u78 u79 u80 u81 u82 u83 u84 u85 u86 u87 u88 u89 u90 u91 u92 u93 u94 u95 u96 u97 u98 u99 u100 u101 u102 u103 u104 u105 u106 u107 u108 u109 u110 u111 u112 u113 u114 u115 u116 u117 u118:Value} {Q:Exit→Act→World→Prop}
  (hQ:∀(v68 v69 v70 v71 v72 v73 v74 v75 v76 v77 v78 v79 v80 v81 v82 v83 v84 v85 v86 v87 v88 v89 v90 v91 v92 v93 v94:Value) (T':TDomS) (G':Nat→Nat→Prop) (W':World),MachT B c S sc Z gm m last (windowK c (dn:Nat) d1 k (nth sc.actions dn) start to_) F FL FK A n Al nl Ak nk Gi W0 (windowD c (dn:Nat) d1 k (nth sc.actions dn) start to_) T' G' W'→W'.heap[gb]?=some (.cells #[.slice T'.a0 (windowD c (dn:Nat) d1 k (nth sc.actions dn) start to_).jobs.length T'.n0,.slice T'.a1 (windowD c (dn:Nat) d1 k (nth sc.actions dn) start to_).released.length T'.n1,.int .i64 (windowD c (dn:Nat) d1 k (nth sc.actions dn) start to_).next,.slice T'.a2 (windowD c (dn:Nat) d1 k (nth sc.actions dn) start to_).ins.length T'.n2,.slice T'.a3 (windowD c (dn:Nat) d1 k (nth sc.actions dn) start to_).taken.length T'.n3,.slice T'.a4 (windowD c (dn:Nat) d1 k (nth sc.actions dn) start to_).outs.length T'.n4,.slice T'.a5 (windowD c (dn:Nat) d1 k (nth sc.actions dn) start to_).events.length T'.n5] 46)→gb < W'.heap.size→(∀j,¬ G' j gb)→Q .normal ⟨List.toArray (.pointer (some ⟨gm,0,none⟩)::u1:: .int .i64 start::u3::u4::u5:: .int .i64 (dn:Nat):: .int .i64 to_:: .pointer (some ⟨gb,0,none⟩)::u9::u10::u11::u12::u13::u14::u15::u16::u17::u18::u19::u20::u21::u22::u23::u24::u25::u26::u27::u28::u29::u30::u31::u32::u33::u34::u35::u36::u37::u38::u39::u40::u41::u42::u43::u44::u45::u46::u47::u48::u49::u50::u51::u52::u53::u54::u55::u56::u57::u58::u59::u60::u61::u62::u63::u64::u65::u66::u67::v68::v69::v70::v71::v72::v73::v74::v75::v76::v77::v78::v79::v80::v81::v82::v83::v84::v85::v86::v87::v88::v89::v90::v91::v92::v93::v94::u95::u96::u97::u98::u99::u100::u101::u102::u103::u104::u105::u106::u107::u108::u109::u110::u111::u112::u113::u114::u115::u116::u117::u118::[]),[]⟩ W'):
  Code.wp Tryd.prog C Q ⟨List.toArray (.pointer (some ⟨gm,0,none⟩)::u1:: .int .i64 start::u3::u4::u5:: .int .i64 (dn:Nat):: .int .i64 to_:: .pointer (some ⟨gb,0,none⟩)::u9::u10::u11::u12::u13::u14::u15::u16::u17::u18::u19::u20::u21::u22::u23::u24::u25::u26::u27::u28::u29::u30::u31::u32::u33::u34::u35::u36::u37::u38::u39::u40::u41::u42::u43::u44::u45::u46::u47::u48::u49::u50::u51::u52::u53::u54::u55::u56::u57::u58::u59::u60::u61::u62::u63::u64::u65::u66::u67::u68::u69::u70::u71::u72::u73::u74::u75::u76::u77::u78::u79::u80::u81::u82::u83::u84::u85::u86::u87::u88::u89::u90::u91::u92::u93::u94::u95::u96::u97::u98::u99::u100::u101::u102::u103::u104::u105::u106::u107::u108::u109::u110::u111::u112::u113::u114::u115::u116::u117::u118::[]),[]⟩ Wb:=by
 subst hC
 replace hQ:=zH hQ
 conv=>arg 2;whnf
 have hlo:=hM.lo
 have hgs:=(blk hM.blk).2.2
 have hgbs:=(blk hbx).2.2
 have hB:Hid (B≤Wb.heap.size):=zH (by omega)
 have hB0:B≤W0.heap.size:=by have:=hgm.out;omega
 obtain ⟨bA,oA,Aa,na,eA,hIA,ka0,hA0⟩:=hM.scr.s0.at_slice hdn
 have hIA:bA < B:=hIA
 have HE:=zH (fun W (h:Below Wb.heap.size Wb W)=>(windowRaw (m:=(dn:Nat)) ok hl ha ht h0 hev ho W (Nat.le_trans hB.out h.size) (hM.cfg.next hB.out h) (hM.ext h).dom (hM.ext h).cch (hA0.next hB.out h) (fun i b hb=>(hM.gx i b hb).1) (fun b hb=>⟨(hM.fp b (.inr (.inr hb))).1,((hM.ext h).fp b (.inr (.inr hb))).2.1⟩) (fun i b hb=>(hM.gx i b hb).2.2.2)).mono
  fun e w' ⟨T',G',h1,h2,h3,h4,h5⟩=>(⟨T',G',h1,(hM.ext h).raw (fun b hb=>hMl.out b (.inl hb)) h2 h3 hkl h4,fun j hj=>by rcases h4.grow j gb hj with e|e;exact hg1 j e;have:=h.size;omega,h4.keep gb (by have:=h.size;omega) hg1 fun hf=>by have:=hMl.out gb (.inr (.inr hf));have:=hgb.out;omega⟩:
   ∃(T':TDomS) (G':Nat→Nat→Prop),e=Ending.returned (.tuple #[.agg #[.slice T'.a0 (windowD c (dn:Nat) d1 k (nth sc.actions dn) start to_).jobs.length T'.n0,.slice T'.a1 (windowD c (dn:Nat) d1 k (nth sc.actions dn) start to_).released.length T'.n1,.int .i64 (windowD c (dn:Nat) d1 k (nth sc.actions dn) start to_).next,.slice T'.a2 (windowD c (dn:Nat) d1 k (nth sc.actions dn) start to_).ins.length T'.n2,.slice T'.a3 (windowD c (dn:Nat) d1 k (nth sc.actions dn) start to_).taken.length T'.n3,.slice T'.a4 (windowD c (dn:Nat) d1 k (nth sc.actions dn) start to_).outs.length T'.n4,.slice T'.a5 (windowD c (dn:Nat) d1 k (nth sc.actions dn) start to_).events.length T'.n5],.agg #[.slice Ak (windowK c (dn:Nat) d1 k (nth sc.actions dn) start to_).length nk]])∧(fun T G W=>MachT B c S sc Z gm m last (windowK c (dn:Nat) d1 k (nth sc.actions dn) start to_) F FL FK A n Al nl Ak nk Gi W0 (windowD c (dn:Nat) d1 k (nth sc.actions dn) start to_) T G W) T' G' w'∧(∀j,¬ G' j gb)∧w'.heap[gb]?=W.heap[gb]?))
 generalize (windowD c (dn:Nat) d1 k (nth sc.actions dn) start to_)=d2 at*
 generalize (windowK c (dn:Nat) d1 k (nth sc.actions dn) start to_)=k2 at*
 have KM:=zH (fun l f W (h:RawS Wb gb d1 d2 T1 (.agg #[.slice Ak k2.length nk]) (fun T G W=>MachT B c S sc Z gm m last k2 F FL FK A n Al nl Ak nk Gi W0 d2 T G W) l f W)=>h.at (p:=fun W=>W.heap[gm]?=some (.cells #[.int .i64 c.sets,.int .i64 c.ways,.int .i64 c.doms,.int .i64 c.pad,.int .i64 c.quantum,.slice S.a0 c.slots.length S.n0,.slice S.a1 c.owners.length S.n1,.slice S.a2 c.chans.length S.n2,.slice S.a3 c.tasks.length S.n3,.slice (some ⟨bA,oA,none⟩) sc.actions.length Z.n0,.slice Z.a1 sc.arrivals.length Z.n1,.int .i64 sc.rounds,.slice A m n,.slice Al last.length nl,.slice Ak k.length nk] 68)) (fun W h=>(h.block _ hgs).trans (by rw [← eA];exact hM.blk)) fun _ _ _ h=>by rw [← eA,← hkl];exact h.blk)
 have KA:=zH (fun l f W (h:RawS Wb gb d1 d2 T1 (.agg #[.slice Ak k2.length nk]) (fun T G W=>MachT B c S sc Z gm m last k2 F FL FK A n Al nl Ak nk Gi W0 d2 T G W) l f W)=>h.at (p:=fun W=>W.cell? ⟨bA,oA+dn,none⟩=some (.slice Aa (nth sc.actions dn).length na)) (fun W h=>(Below.cell h (p:=⟨bA,_,none⟩) (show bA < Wb.heap.size by omega)).trans ka0) fun _ _ _ h=>(cell_of_heap (hM.same h hB0 hIA)).trans ka0)
 have j0:(0:Int)≤(dn:Nat):=by omega
 have j1:((dn:Nat):Int) < sc.actions.length:=by omega
 clear hM hl ha h0 hev ho hdn hlo hgs hgbs hg1 ka0 hA0 hkl eA hIA
 refine wp_region_invT 26 [69,70,71,72,73,74,75,76,77,78,79,80,81,82,83,84,85,86,87,88,89,90,68,91,92] (fun l f W=>(RawS Wb gb d1 d2 T1 (.agg #[.slice Ak k2.length nk]) (fun T G W=>MachT B c S sc Z gm m last k2 F FL FK A n Al nl Ak nk Gi W0 d2 T G W) l f W∧l.size=29)∧Fa l 0 (f 69= .pointer (some ⟨gm,0,none⟩))∧Fa l 1 (f 70= .pointer (some ⟨gm,0,none⟩))∧Fa l 2 (f 71= .pointer (some ⟨gm,0,none⟩))∧Fa l 3 (f 72= .pointer (some ⟨gm,0,none⟩))∧Fa l 4 (f 73= .agg #[.int .i64 c.sets,.int .i64 c.ways,.int .i64 c.doms,.int .i64 c.pad,.int .i64 c.quantum,.slice S.a0 c.slots.length S.n0,.slice S.a1 c.owners.length S.n1,.slice S.a2 c.chans.length S.n2,.slice S.a3 c.tasks.length S.n3])∧Fa l 5 (f 74= .int .i64 (((dn:Nat):Int)))∧Fa l 6 (f 75= .agg #[.slice T1.a0 d1.jobs.length T1.n0,.slice T1.a1 d1.released.length T1.n1,.int .i64 d1.next,.slice T1.a2 d1.ins.length T1.n2,.slice T1.a3 d1.taken.length T1.n3,.slice T1.a4 d1.outs.length T1.n4,.slice T1.a5 d1.events.length T1.n5])∧Fa l 7 (f 76= .pointer (some ⟨gm,0,none⟩))∧Fa l 8 (f 77= .pointer (some ⟨gm,0,none⟩))∧Fa l 9 (f 78= .pointer (some ⟨gm,14,none⟩))∧Fa l 10 (f 79= .agg #[.slice Ak k.length nk])∧Fa l 11 (f 80= .pointer (some ⟨gm,0,none⟩))∧Fa l 12 (f 81= .pointer (some ⟨gm,0,none⟩))∧Fa l 13 (f 82= .pointer (some ⟨gm,9,none⟩))∧Fa l 14 (f 83= .pointer (some ⟨gm,9,none⟩))∧Fa l 15 (f 84= .slice (some ⟨bA,oA,none⟩) sc.actions.length Z.n0)∧Fa l 16 (f 85= .int .i64 (((dn:Nat):Int)))∧Fa l 17 (f 86= .pointer (some ⟨bA,oA+dn,none⟩))∧Fa l 18 (f 87= .slice Aa (nth sc.actions dn).length na)∧Fa l 19 (f 88= .int .i64 start)∧Fa l 20 (f 89= .int .i64 to_)) (by kernel_rfl) (by decide) (by kernel_rfl) (by kernel_rfl) (by intro s hs;simp at hs⊢;omega) ?_ ?_ ?_
 ·intro l hz hl
  exact ⟨⟨rawS_start hl (Below.refl _ _).drew hbx,hz⟩,.no (hl 0),.no (hl 1),.no (hl 2),.no (hl 3),.no (hl 4),.no (hl 5),.no (hl 6),.no (hl 7),.no (hl 8),.no (hl 9),.no (hl 10),.no (hl 11),.no (hl 12),.no (hl 13),.no (hl 14),.no (hl 15),.no (hl 16),.no (hl 17),.no (hl 18),.no (hl 19),.no (hl 20)⟩
 ·simp only [List.take_succ_cons,List.take_zero]
  refine StepsL.c 1 [] (fun l f W hR hn hb K Q2 hK=>?_) ?_
  ·obtain ⟨hS,h0,h1,h2,h3,h4,h5,h6,h7,h8,h9,h10,h11,h12,h13,h14,h15,h16,h17,h18,h19,h20⟩:=hR
   clear hb
   refine ⟨?_⟩
   simp only [pfs] at hK⊢
   go_simp
   refine hK.out _ _ ⟨⟨hS.1.skip (v:=_),by simpa using hS.2⟩,⟨fun _=>rfl⟩,h1.k,h2.k,h3.k,h4.k,h5.k,h6.k,h7.k,h8.k,h9.k,h10.k,h11.k,h12.k,h13.k,h14.k,h15.k,h16.k,h17.k,h18.k,h19.k,h20.k⟩
  refine StepsL.c 2 [] (fun l f W hR hn hb K Q2 hK=>?_) ?_
  ·obtain ⟨hS,h0,h1,h2,h3,h4,h5,h6,h7,h8,h9,h10,h11,h12,h13,h14,h15,h16,h17,h18,h19,h20⟩:=hR
   clear hb
   refine ⟨?_⟩
   simp only [pfs] at hK⊢
   go_simp
   refine hK.out _ _ ⟨⟨hS.1.skip (v:=_),by simpa using hS.2⟩,h0.k,⟨fun _=>rfl⟩,h2.k,h3.k,h4.k,h5.k,h6.k,h7.k,h8.k,h9.k,h10.k,h11.k,h12.k,h13.k,h14.k,h15.k,h16.k,h17.k,h18.k,h19.k,h20.k⟩
  refine StepsL.c 3 [1] (fun l f W hR hn hb K Q2 hK=>?_) ?_
  ·obtain ⟨hS,h0,h1,h2,h3,h4,h5,h6,h7,h8,h9,h10,h11,h12,h13,h14,h15,h16,h17,h18,h19,h20⟩:=hR
   have q1:=h1.out (hb 1 (by simp))
   clear hb
   refine ⟨?_⟩
   simp only [pfs] at hK⊢
   (try simp only [q1] at hK)
   go_simp
   refine hK.out _ _ ⟨⟨hS.1.skip (v:=_),by simpa using hS.2⟩,h0.k,h1.k,⟨fun _=>rfl⟩,h3.k,h4.k,h5.k,h6.k,h7.k,h8.k,h9.k,h10.k,h11.k,h12.k,h13.k,h14.k,h15.k,h16.k,h17.k,h18.k,h19.k,h20.k⟩
  refine StepsL.c 4 [2] (fun l f W hR hn hb K Q2 hK=>?_) ?_
  ·obtain ⟨hS,h0,h1,h2,h3,h4,h5,h6,h7,h8,h9,h10,h11,h12,h13,h14,h15,h16,h17,h18,h19,h20⟩:=hR
   have q2:=h2.out (hb 2 (by simp))
   clear hb
   refine ⟨?_⟩
   simp only [pfs] at hK⊢
   (try simp only [q2] at hK)
   go_simp
   refine hK.out _ _ ⟨⟨hS.1.skip (v:=_),by simpa using hS.2⟩,h0.k,h1.k,h2.k,⟨fun _=>rfl⟩,h4.k,h5.k,h6.k,h7.k,h8.k,h9.k,h10.k,h11.k,h12.k,h13.k,h14.k,h15.k,h16.k,h17.k,h18.k,h19.k,h20.k⟩
  refine StepsL.c 5 [3] (fun l f W hR hn hb K Q2 hK=>?_) ?_
  ·obtain ⟨hS,h0,h1,h2,h3,h4,h5,h6,h7,h8,h9,h10,h11,h12,h13,h14,h15,h16,h17,h18,h19,h20⟩:=hR
   have q3:=h3.out (hb 3 (by simp))
   clear hb
   refine ⟨?_⟩
   simp only [pfs] at hK⊢
   (try simp only [q3] at hK)
   obtain ⟨cX,fX,zX⟩:=blk (KM.out l f W hS.1)
   go_simp
   refine hK.out _ _ ⟨⟨hS.1.skip (v:=_),by simpa using hS.2⟩,h0.k,h1.k,h2.k,h3.k,⟨fun _=>rfl⟩,h5.k,h6.k,h7.k,h8.k,h9.k,h10.k,h11.k,h12.k,h13.k,h14.k,h15.k,h16.k,h17.k,h18.k,h19.k,h20.k⟩
  refine StepsL.c 6 [] (fun l f W hR hn hb K Q2 hK=>?_) ?_
  ·obtain ⟨hS,h0,h1,h2,h3,h4,h5,h6,h7,h8,h9,h10,h11,h12,h13,h14,h15,h16,h17,h18,h19,h20⟩:=hR
   clear hb
   refine ⟨?_⟩
   simp only [pfs] at hK⊢
   go_simp
   refine hK.out _ _ ⟨⟨hS.1.skip (v:=_),by simpa using hS.2⟩,h0.k,h1.k,h2.k,h3.k,h4.k,⟨fun _=>rfl⟩,h6.k,h7.k,h8.k,h9.k,h10.k,h11.k,h12.k,h13.k,h14.k,h15.k,h16.k,h17.k,h18.k,h19.k,h20.k⟩
  refine StepsL.c 7 [] (fun l f W hR hn hb K Q2 hK=>?_) ?_
  ·obtain ⟨hS,h0,h1,h2,h3,h4,h5,h6,h7,h8,h9,h10,h11,h12,h13,h14,h15,h16,h17,h18,h19,h20⟩:=hR
   have hn21:¬ Lst l 21:=fun h=>hn (hS.1.o h)
   have hn25:=hS.1.n25 hn21
   clear hb
   refine ⟨?_⟩
   simp only [pfs] at hK⊢
   obtain ⟨cX,fX,zX⟩:=blk (hS.1.bx hn25)
   go_simp
   refine hK.out _ _ ⟨⟨hS.1.skip (v:=_),by simpa using hS.2⟩,h0.k,h1.k,h2.k,h3.k,h4.k,h5.k,⟨fun _=>rfl⟩,h7.k,h8.k,h9.k,h10.k,h11.k,h12.k,h13.k,h14.k,h15.k,h16.k,h17.k,h18.k,h19.k,h20.k⟩
  refine StepsL.c 8 [] (fun l f W hR hn hb K Q2 hK=>?_) ?_
  ·obtain ⟨hS,h0,h1,h2,h3,h4,h5,h6,h7,h8,h9,h10,h11,h12,h13,h14,h15,h16,h17,h18,h19,h20⟩:=hR
   clear hb
   refine ⟨?_⟩
   simp only [pfs] at hK⊢
   go_simp
   refine hK.out _ _ ⟨⟨hS.1.skip (v:=_),by simpa using hS.2⟩,h0.k,h1.k,h2.k,h3.k,h4.k,h5.k,h6.k,⟨fun _=>rfl⟩,h8.k,h9.k,h10.k,h11.k,h12.k,h13.k,h14.k,h15.k,h16.k,h17.k,h18.k,h19.k,h20.k⟩
  refine StepsL.c 9 [7] (fun l f W hR hn hb K Q2 hK=>?_) ?_
  ·obtain ⟨hS,h0,h1,h2,h3,h4,h5,h6,h7,h8,h9,h10,h11,h12,h13,h14,h15,h16,h17,h18,h19,h20⟩:=hR
   have q7:=h7.out (hb 7 (by simp))
   clear hb
   refine ⟨?_⟩
   simp only [pfs] at hK⊢
   (try simp only [q7] at hK)
   go_simp
   refine hK.out _ _ ⟨⟨hS.1.skip (v:=_),by simpa using hS.2⟩,h0.k,h1.k,h2.k,h3.k,h4.k,h5.k,h6.k,h7.k,⟨fun _=>rfl⟩,h9.k,h10.k,h11.k,h12.k,h13.k,h14.k,h15.k,h16.k,h17.k,h18.k,h19.k,h20.k⟩
  refine StepsL.c 10 [8] (fun l f W hR hn hb K Q2 hK=>?_) ?_
  ·obtain ⟨hS,h0,h1,h2,h3,h4,h5,h6,h7,h8,h9,h10,h11,h12,h13,h14,h15,h16,h17,h18,h19,h20⟩:=hR
   have q8:=h8.out (hb 8 (by simp))
   clear hb
   refine ⟨?_⟩
   simp only [pfs] at hK⊢
   (try simp only [q8] at hK)
   go_simp
   refine hK.out _ _ ⟨⟨hS.1.skip (v:=_),by simpa using hS.2⟩,h0.k,h1.k,h2.k,h3.k,h4.k,h5.k,h6.k,h7.k,h8.k,⟨fun _=>rfl⟩,h10.k,h11.k,h12.k,h13.k,h14.k,h15.k,h16.k,h17.k,h18.k,h19.k,h20.k⟩
  refine StepsL.c 11 [9] (fun l f W hR hn hb K Q2 hK=>?_) ?_
  ·obtain ⟨hS,h0,h1,h2,h3,h4,h5,h6,h7,h8,h9,h10,h11,h12,h13,h14,h15,h16,h17,h18,h19,h20⟩:=hR
   have q9:=h9.out (hb 9 (by simp))
   clear hb
   refine ⟨?_⟩
   simp only [pfs] at hK⊢
   (try simp only [q9] at hK)
   obtain ⟨cX,fX,zX⟩:=blk (KM.out l f W hS.1)
   go_simp
   refine hK.out _ _ ⟨⟨hS.1.skip (v:=_),by simpa using hS.2⟩,h0.k,h1.k,h2.k,h3.k,h4.k,h5.k,h6.k,h7.k,h8.k,h9.k,⟨fun _=>rfl⟩,h11.k,h12.k,h13.k,h14.k,h15.k,h16.k,h17.k,h18.k,h19.k,h20.k⟩
  refine StepsL.c 12 [] (fun l f W hR hn hb K Q2 hK=>?_) ?_
  ·obtain ⟨hS,h0,h1,h2,h3,h4,h5,h6,h7,h8,h9,h10,h11,h12,h13,h14,h15,h16,h17,h18,h19,h20⟩:=hR
   clear hb
   refine ⟨?_⟩
   simp only [pfs] at hK⊢
   go_simp
   refine hK.out _ _ ⟨⟨hS.1.skip (v:=_),by simpa using hS.2⟩,h0.k,h1.k,h2.k,h3.k,h4.k,h5.k,h6.k,h7.k,h8.k,h9.k,h10.k,⟨fun _=>rfl⟩,h12.k,h13.k,h14.k,h15.k,h16.k,h17.k,h18.k,h19.k,h20.k⟩
  refine StepsL.c 13 [11] (fun l f W hR hn hb K Q2 hK=>?_) ?_
  ·obtain ⟨hS,h0,h1,h2,h3,h4,h5,h6,h7,h8,h9,h10,h11,h12,h13,h14,h15,h16,h17,h18,h19,h20⟩:=hR
   have q11:=h11.out (hb 11 (by simp))
   clear hb
   refine ⟨?_⟩
   simp only [pfs] at hK⊢
   (try simp only [q11] at hK)
   go_simp
   refine hK.out _ _ ⟨⟨hS.1.skip (v:=_),by simpa using hS.2⟩,h0.k,h1.k,h2.k,h3.k,h4.k,h5.k,h6.k,h7.k,h8.k,h9.k,h10.k,h11.k,⟨fun _=>rfl⟩,h13.k,h14.k,h15.k,h16.k,h17.k,h18.k,h19.k,h20.k⟩
  refine StepsL.c 14 [12] (fun l f W hR hn hb K Q2 hK=>?_) ?_
  ·obtain ⟨hS,h0,h1,h2,h3,h4,h5,h6,h7,h8,h9,h10,h11,h12,h13,h14,h15,h16,h17,h18,h19,h20⟩:=hR
   have q12:=h12.out (hb 12 (by simp))
   clear hb
   refine ⟨?_⟩
   simp only [pfs] at hK⊢
   (try simp only [q12] at hK)
   go_simp
   refine hK.out _ _ ⟨⟨hS.1.skip (v:=_),by simpa using hS.2⟩,h0.k,h1.k,h2.k,h3.k,h4.k,h5.k,h6.k,h7.k,h8.k,h9.k,h10.k,h11.k,h12.k,⟨fun _=>rfl⟩,h14.k,h15.k,h16.k,h17.k,h18.k,h19.k,h20.k⟩
  refine StepsL.c 15 [13] (fun l f W hR hn hb K Q2 hK=>?_) ?_
  ·obtain ⟨hS,h0,h1,h2,h3,h4,h5,h6,h7,h8,h9,h10,h11,h12,h13,h14,h15,h16,h17,h18,h19,h20⟩:=hR
   have q13:=h13.out (hb 13 (by simp))
   clear hb
   refine ⟨?_⟩
   simp only [pfs] at hK⊢
   (try simp only [q13] at hK)
   go_simp
   refine hK.out _ _ ⟨⟨hS.1.skip (v:=_),by simpa using hS.2⟩,h0.k,h1.k,h2.k,h3.k,h4.k,h5.k,h6.k,h7.k,h8.k,h9.k,h10.k,h11.k,h12.k,h13.k,⟨fun _=>rfl⟩,h15.k,h16.k,h17.k,h18.k,h19.k,h20.k⟩
  refine StepsL.c 16 [14] (fun l f W hR hn hb K Q2 hK=>?_) ?_
  ·obtain ⟨hS,h0,h1,h2,h3,h4,h5,h6,h7,h8,h9,h10,h11,h12,h13,h14,h15,h16,h17,h18,h19,h20⟩:=hR
   have q14:=h14.out (hb 14 (by simp))
   clear hb
   refine ⟨?_⟩
   simp only [pfs] at hK⊢
   (try simp only [q14] at hK)
   obtain ⟨cX,fX,zX⟩:=blk (KM.out l f W hS.1)
   go_simp
   refine hK.out _ _ ⟨⟨hS.1.skip (v:=_),by simpa using hS.2⟩,h0.k,h1.k,h2.k,h3.k,h4.k,h5.k,h6.k,h7.k,h8.k,h9.k,h10.k,h11.k,h12.k,h13.k,h14.k,⟨fun _=>rfl⟩,h16.k,h17.k,h18.k,h19.k,h20.k⟩
  refine StepsL.c 17 [] (fun l f W hR hn hb K Q2 hK=>?_) ?_
  ·obtain ⟨hS,h0,h1,h2,h3,h4,h5,h6,h7,h8,h9,h10,h11,h12,h13,h14,h15,h16,h17,h18,h19,h20⟩:=hR
   clear hb
   refine ⟨?_⟩
   simp only [pfs] at hK⊢
   go_simp
   refine hK.out _ _ ⟨⟨hS.1.skip (v:=_),by simpa using hS.2⟩,h0.k,h1.k,h2.k,h3.k,h4.k,h5.k,h6.k,h7.k,h8.k,h9.k,h10.k,h11.k,h12.k,h13.k,h14.k,h15.k,⟨fun _=>rfl⟩,h17.k,h18.k,h19.k,h20.k⟩
  refine StepsL.c 18 [15,16] (fun l f W hR hn hb K Q2 hK=>?_) ?_
  ·obtain ⟨hS,h0,h1,h2,h3,h4,h5,h6,h7,h8,h9,h10,h11,h12,h13,h14,h15,h16,h17,h18,h19,h20⟩:=hR
   have q15:=h15.out (hb 15 (by simp))
   have q16:=h16.out (hb 16 (by simp))
   clear hb
   refine ⟨?_⟩
   simp only [pfs] at hK⊢
   (try simp only [q15,q16] at hK)
   go_simp
   refine hK.out _ _ ⟨⟨hS.1.skip (v:=_),by simpa using hS.2⟩,h0.k,h1.k,h2.k,h3.k,h4.k,h5.k,h6.k,h7.k,h8.k,h9.k,h10.k,h11.k,h12.k,h13.k,h14.k,h15.k,h16.k,⟨fun _=>rfl⟩,h18.k,h19.k,h20.k⟩
  refine StepsL.c 19 [17] (fun l f W hR hn hb K Q2 hK=>?_) ?_
  ·obtain ⟨hS,h0,h1,h2,h3,h4,h5,h6,h7,h8,h9,h10,h11,h12,h13,h14,h15,h16,h17,h18,h19,h20⟩:=hR
   have q17:=h17.out (hb 17 (by simp))
   clear hb
   refine ⟨?_⟩
   simp only [pfs] at hK⊢
   (try simp only [q17] at hK)
   have ka:=KA.out l f W hS.1
   go_simp
   refine hK.out _ _ ⟨⟨hS.1.skip (v:=_),by simpa using hS.2⟩,h0.k,h1.k,h2.k,h3.k,h4.k,h5.k,h6.k,h7.k,h8.k,h9.k,h10.k,h11.k,h12.k,h13.k,h14.k,h15.k,h16.k,h17.k,⟨fun _=>rfl⟩,h19.k,h20.k⟩
  refine StepsL.c 20 [] (fun l f W hR hn hb K Q2 hK=>?_) ?_
  ·obtain ⟨hS,h0,h1,h2,h3,h4,h5,h6,h7,h8,h9,h10,h11,h12,h13,h14,h15,h16,h17,h18,h19,h20⟩:=hR
   clear hb
   refine ⟨?_⟩
   simp only [pfs] at hK⊢
   go_simp
   refine hK.out _ _ ⟨⟨hS.1.skip (v:=_),by simpa using hS.2⟩,h0.k,h1.k,h2.k,h3.k,h4.k,h5.k,h6.k,h7.k,h8.k,h9.k,h10.k,h11.k,h12.k,h13.k,h14.k,h15.k,h16.k,h17.k,h18.k,⟨fun _=>rfl⟩,h20.k⟩
  refine StepsL.c 21 [] (fun l f W hR hn hb K Q2 hK=>?_) ?_
  ·obtain ⟨hS,h0,h1,h2,h3,h4,h5,h6,h7,h8,h9,h10,h11,h12,h13,h14,h15,h16,h17,h18,h19,h20⟩:=hR
   clear hb
   refine ⟨?_⟩
   simp only [pfs] at hK⊢
   go_simp
   refine hK.out _ _ ⟨⟨hS.1.skip (v:=_),by simpa using hS.2⟩,h0.k,h1.k,h2.k,h3.k,h4.k,h5.k,h6.k,h7.k,h8.k,h9.k,h10.k,h11.k,h12.k,h13.k,h14.k,h15.k,h16.k,h17.k,h18.k,h19.k,⟨fun _=>rfl⟩⟩
  refine StepsL.c 22 [4,5,6,10,18,19,20] (fun l f W hR hn hb K Q2 hK=>?_) ?_
  ·obtain ⟨hS,h0,h1,h2,h3,h4,h5,h6,h7,h8,h9,h10,h11,h12,h13,h14,h15,h16,h17,h18,h19,h20⟩:=hR
   have q4:=h4.out (hb 4 (by simp))
   have q5:=h5.out (hb 5 (by simp))
   have q6:=h6.out (hb 6 (by simp))
   have q10:=h10.out (hb 10 (by simp))
   have q18:=h18.out (hb 18 (by simp))
   have q19:=h19.out (hb 19 (by simp))
   have q20:=h20.out (hb 20 (by simp))
   have L6:=hb 6 (by simp)
   have hS9:=hS.1.ne hn
   have HL:=HE.out W hS9
   clear hb
   refine ⟨?_⟩
   simp only [pfs] at hK⊢
   (try simp only [q4,q5,q6,q10,q18,q19,q20] at hK)
   go_simp
   go_at_call 51
   refine HL.mono ?_
   clear HL
   rintro e w9 ⟨T9,G9,rfl,hT9,hg9,hx9⟩
   try dsimp only
   try simp only [Act.put,List.setIfInBounds_toArray,List.set_cons_zero,List.set_cons_succ]
   refine hK.out _ _ ⟨⟨hS.1.call (by omega) hn L6 hT9 hg9 hx9,by simpa using hS.2⟩,h0.k,h1.k,h2.k,h3.k,h4.k,h5.k,h6.k,h7.k,h8.k,h9.k,h10.k,h11.k,h12.k,h13.k,h14.k,h15.k,h16.k,h17.k,h18.k,h19.k,h20.k⟩
  refine StepsL.c 23 [21] (fun l f W hR hn hb K Q2 hK=>?_) ?_
  ·obtain ⟨hS,h0,h1,h2,h3,h4,h5,h6,h7,h8,h9,h10,h11,h12,h13,h14,h15,h16,h17,h18,h19,h20⟩:=hR
   have L:=hb 21 (by simp)
   obtain ⟨TT,GG,hG9⟩:=hS.1
   have e9:=(hG9.s21 L).1
   clear hb
   refine ⟨?_⟩
   simp only [pfs] at hK⊢
   (try simp only [e9] at hK)
   go_simp
   refine hK.out _ _ ⟨⟨⟨TT,GG,hG9.step (by decide) (by decide) (fun _=>⟨rfl,rfl,L,rfl⟩) (fun c=>by omega) (fun c=>by omega)⟩,by simpa using hS.2⟩,h0.k,h1.k,h2.k,h3.k,h4.k,h5.k,h6.k,h7.k,h8.k,h9.k,h10.k,h11.k,h12.k,h13.k,h14.k,h15.k,h16.k,h17.k,h18.k,h19.k,h20.k⟩
  refine StepsL.c 24 [22] (fun l f W hR hn hb K Q2 hK=>?_) ?_
  ·obtain ⟨hS,h0,h1,h2,h3,h4,h5,h6,h7,h8,h9,h10,h11,h12,h13,h14,h15,h16,h17,h18,h19,h20⟩:=hR
   have L:=hb 22 (by simp)
   obtain ⟨TT,GG,hG9⟩:=hS.1
   have e9:=(hG9.s22 L).2
   clear hb
   refine ⟨?_⟩
   simp only [pfs] at hK⊢
   (try simp only [e9] at hK)
   go_simp
   refine hK.out _ _ ⟨⟨⟨TT,GG,hG9.step (by decide) (by decide) (fun c=>by omega) (fun _=>⟨rfl,rfl,(hG9.s22 L).1,rfl⟩) (fun c=>by omega)⟩,by simpa using hS.2⟩,h0.k,h1.k,h2.k,h3.k,h4.k,h5.k,h6.k,h7.k,h8.k,h9.k,h10.k,h11.k,h12.k,h13.k,h14.k,h15.k,h16.k,h17.k,h18.k,h19.k,h20.k⟩
  refine StepsL.c 25 [22] (fun l f W hR hn hb K Q2 hK=>?_) ?_
  ·obtain ⟨hS,h0,h1,h2,h3,h4,h5,h6,h7,h8,h9,h10,h11,h12,h13,h14,h15,h16,h17,h18,h19,h20⟩:=hR
   have L:=hb 22 (by simp)
   obtain ⟨TT,GG,hG9⟩:=hS.1
   have e9:=(hG9.s22 L).2
   clear hb
   refine ⟨?_⟩
   simp only [pfs] at hK⊢
   (try simp only [e9] at hK)
   go_simp
   refine hK.out _ _ ⟨⟨⟨TT,GG,hG9.step (by decide) (by decide) (fun c=>by omega) (fun c=>by omega) (fun _=>⟨rfl,rfl,rfl⟩)⟩,by simpa using hS.2⟩,h0.k,h1.k,h2.k,h3.k,h4.k,h5.k,h6.k,h7.k,h8.k,h9.k,h10.k,h11.k,h12.k,h13.k,h14.k,h15.k,h16.k,h17.k,h18.k,h19.k,h20.k⟩
  refine StepsL.c 26 [23,21,1,2,3,4,5,6,7,8,9,10,11,12,13,14,15,16,17,18,19,20,21,22,23] (fun l f W hR hn hb K Q2 hK=>?_) ?_
  ·obtain ⟨hS,h0,h1,h2,h3,h4,h5,h6,h7,h8,h9,h10,h11,h12,h13,h14,h15,h16,h17,h18,h19,h20⟩:=hR
   have q1:=h1.out (hb 1 (by simp))
   have q2:=h2.out (hb 2 (by simp))
   have q3:=h3.out (hb 3 (by simp))
   have q4:=h4.out (hb 4 (by simp))
   have q5:=h5.out (hb 5 (by simp))
   have q6:=h6.out (hb 6 (by simp))
   have q7:=h7.out (hb 7 (by simp))
   have q8:=h8.out (hb 8 (by simp))
   have q9:=h9.out (hb 9 (by simp))
   have q10:=h10.out (hb 10 (by simp))
   have q11:=h11.out (hb 11 (by simp))
   have q12:=h12.out (hb 12 (by simp))
   have q13:=h13.out (hb 13 (by simp))
   have q14:=h14.out (hb 14 (by simp))
   have q15:=h15.out (hb 15 (by simp))
   have q16:=h16.out (hb 16 (by simp))
   have q17:=h17.out (hb 17 (by simp))
   have q18:=h18.out (hb 18 (by simp))
   have q19:=h19.out (hb 19 (by simp))
   have q20:=h20.out (hb 20 (by simp))
   have hb9:=hb 9 (by simp)
   have L:=hb 23 (by simp)
   obtain ⟨TT,GG,hG9⟩:=hS.1
   have e9:=(hG9.s23 L).2
   have hP9:=zH (hG9.s21 (hG9.s23 L).1)
   have hb9:=hG9.bx
   obtain ⟨xs9,hx9,ha9,-⟩:=hb9
   rw [ha9 hn] at hx9
   clear ha9
   clear hb
   refine ⟨?_⟩
   simp only [pfs] at hK⊢
   (try simp only [q1,q2,q3,q4,q5,q6,q7,q8,q9,q10,q11,q12,q13,q14,q15,q16,q17,q18,q19,q20,e9] at hK)
   obtain ⟨cX,fX,zX⟩:=blk hx9
   go_simp
   refine hK.out undef _ ⟨⟨RawS.put hG9 (by omega) L (hP9.out.2.1.far (fun b hb=>dom_far hb) (dom_below (Below.refl _ _) (Nat.zero_le _)) hgb.out hP9.out.2.2 hMl.out hgm.out) (dom_set hx9),by simpa using hS.2⟩,h0.k,h1.k,h2.k,h3.k,h4.k,h5.k,h6.k,h7.k,h8.k,h9.k,h10.k,h11.k,h12.k,h13.k,h14.k,h15.k,h16.k,h17.k,h18.k,h19.k,h20.k⟩
  exact StepsL.nil
 ·intro l f W hR hall
  obtain ⟨hS,h0,h1,h2,h3,h4,h5,h6,h7,h8,h9,h10,h11,h12,h13,h14,h15,h16,h17,h18,h19,h20⟩:=hR
  have q0:=h0.out (hall 0 (by decide))
  have q1:=h1.out (hall 1 (by decide))
  have q2:=h2.out (hall 2 (by decide))
  have q3:=h3.out (hall 3 (by decide))
  have q4:=h4.out (hall 4 (by decide))
  have q5:=h5.out (hall 5 (by decide))
  have q6:=h6.out (hall 6 (by decide))
  have q7:=h7.out (hall 7 (by decide))
  have q8:=h8.out (hall 8 (by decide))
  have q9:=h9.out (hall 9 (by decide))
  have q10:=h10.out (hall 10 (by decide))
  have q11:=h11.out (hall 11 (by decide))
  have q12:=h12.out (hall 12 (by decide))
  have q13:=h13.out (hall 13 (by decide))
  have q14:=h14.out (hall 14 (by decide))
  have q15:=h15.out (hall 15 (by decide))
  have q16:=h16.out (hall 16 (by decide))
  have q17:=h17.out (hall 17 (by decide))
  have q18:=h18.out (hall 18 (by decide))
  have q19:=h19.out (hall 19 (by decide))
  have q20:=h20.out (hall 20 (by decide))
  clear h0 h1 h2 h3 h4 h5 h6 h7 h8 h9 h10 h11 h12 h13 h14 h15 h16 h17 h18 h19 h20
  simp only [List.drop_succ_cons,List.drop_zero]
  obtain ⟨TT,GG,hG9⟩:=hS.1
  have L21:=hall 21 (by decide)
  obtain ⟨p90,hP,hg9⟩:=hG9.s21 L21
  have p92:=hG9.s24 (hall 24 (by decide))
  obtain ⟨xs9,hx9,-,ha9⟩:=hG9.bx
  rw [ha9 (hall 25 (by decide))] at hx9
  simp only [pfs]
  simp only [q0,p92]
  obtain ⟨cb,fb,zb⟩:=blk hP.blk
  have ck:=cb 14
  replace hP:=zH hP
  replace hg9:=zH hg9
  replace hx9:=zH hx9
  clear hG9 ha9 q0 q1 q2 q3 q4 q5 q6 q7 q8 q9 q10 q11 q12 q13 q14 q15 q16 q17 q18 q19 q20 p90 p92 hall hS L21
  go_wp2_with fail
  rw [cell_same (show W.cell? ⟨gm,14,none⟩=some (.slice Ak k2.length nk) from ck)]
  exact hQ.out _ _ _ _ _ _ _ _ _ _ _ _ _ _ _ _ _ _ _ _ _ _ _ _ _ _ _ TT GG _ hP.out hx9.out (blk hx9.out).2.2 hg9.out
end Go.Proofs.YtinlmkhlgclbfabDoor
