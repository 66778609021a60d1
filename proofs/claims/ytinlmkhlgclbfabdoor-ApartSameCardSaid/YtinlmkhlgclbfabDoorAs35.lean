/- SlotD to CacheC -/
import Derived.Test.YtinlmkhlgclbfabDoorAs33
import Derived.Test.YtinlmkhlgclbfabDoorAs34
namespace Go.Proofs.YtinlmkhlgclbfabDoor
open Go.RowKit
section
set_option maxRecDepth 1000000
set_option maxHeartbeats 4000000
theorem slotR3 (C:Code)(hC:C=slotR 3){B:Nat}{c:TCfg}{S:TCfgS}{sc:TScr}{Z:TScrS}{gm:Nat}{m:Nat}{last:List Int}{k:List (List TWay)}{F FL FK:Nat→Prop}{A:Option Addr}{n:Nat}{Al:Option Addr}{nl:Nat}{Ak:Option Addr}{nk:Nat}{Wb W0:World}{d:TDom}{T:TDomS}{G:Nat→Nat→Prop}{Gi:Nat→Prop}{dn:Nat}{start:Int}(hM:MachT B c S sc Z gm m last k F FL FK A n Al nl Ak nk Gi W0 d T G Wb)(hdn:dn < last.length)
  {u1 u3 u4 u5 u7 u8 u9 u10 u11 u12 u13 u14 u15 u16 u17 u18 u19 u20 u21 u22 u23 u24 u25 u26 u27 u28 u29 u30 u31 u32 u33 u34 u35 u36 u37 u38 u39 u40 u41 u42 u43 u44 u45 u46 u47 u48 u49 u50 u51 u52 u53 u54 u55 u56 u57 u58 u59 u60 u61 u62 u63 u64 u65 u66 u67 u68 u69 u70 u71 u72 u73 u74 u75 u76 u77 u78 u79 u80 u81 u82 u83 u84 u85 u86 u87 u88 u89 u90 u91 u92 u93 u94 u95 u96 u97 u98 u99 u100 u101 u102 u103 u104 u105 u106 u107 u108 u109 u110 u111 u112 u113 u114 u115 u116 u117 u118:Value} {Q:Exit→Act→World→Prop}
  (hQ:∀(v61 v62 v63 v64 v65 v66 v67:Value) (W':World),MachT B c S sc Z gm m (last.set dn start) k F FL FK A n Al nl Ak nk Gi W0 d T G W'→(∀b,¬ FL b→W'.heap[b]?=Wb.heap[b]?)→W'.heap.size=Wb.heap.size→Q .normal ⟨List.toArray (.pointer (some ⟨gm,0,none⟩)::u1:: .int .i64 start::u3::u4::u5:: .int .i64 (dn:Nat)::u7::u8::u9::u10::u11::u12::u13::u14::u15::u16::u17::u18::u19::u20::u21::u22::u23::u24::u25::u26::u27::u28::u29::u30::u31::u32::u33::u34::u35::u36::u37::u38::u39::u40::u41::u42::u43::u44::u45::u46::u47::u48::u49::u50::u51::u52::u53::u54::u55::u56::u57::u58::u59::u60::v61::v62::v63::v64::v65::v66::v67::u68::u69::u70::u71::u72::u73::u74::u75::u76::u77::u78::u79::u80::u81::u82::u83::u84::u85::u86::u87::u88::u89::u90::u91::u92::u93::u94::u95::u96::u97::u98::u99::u100::u101::u102::u103::u104::u105::u106::u107::u108::u109::u110::u111::u112::u113::u114::u115::u116::u117::u118::[]),[]⟩ W'):
  Code.wp Tryd.prog C Q ⟨List.toArray (.pointer (some ⟨gm,0,none⟩)::u1:: .int .i64 start::u3::u4::u5:: .int .i64 (dn:Nat)::u7::u8::u9::u10::u11::u12::u13::u14::u15::u16::u17::u18::u19::u20::u21::u22::u23::u24::u25::u26::u27::u28::u29::u30::u31::u32::u33::u34::u35::u36::u37::u38::u39::u40::u41::u42::u43::u44::u45::u46::u47::u48::u49::u50::u51::u52::u53::u54::u55::u56::u57::u58::u59::u60::u61::u62::u63::u64::u65::u66::u67::u68::u69::u70::u71::u72::u73::u74::u75::u76::u77::u78::u79::u80::u81::u82::u83::u84::u85::u86::u87::u88::u89::u90::u91::u92::u93::u94::u95::u96::u97::u98::u99::u100::u101::u102::u103::u104::u105::u106::u107::u108::u109::u110::u111::u112::u113::u114::u115::u116::u117::u118::[]),[]⟩ Wb:=by
 subst hC
 replace hQ:=zH hQ
 conv=>arg 2;whnf
 obtain ⟨g,e,hg,hgm,hBg,hFL,hf,hc,hset⟩:=hM.setLast hdn
 have hbm:=hM.blk
 rw [e] at hbm
 obtain ⟨cm,fm,zm⟩:=blk hbm
 have i0:(0:Int)≤(dn:Nat):=by omega
 have i1:((dn:Nat):Int) < last.length:=by omega
 replace hset:=zH hset
 clear hM hbm
 go_wp2_with fail
 exact hQ.out _ _ _ _ _ _ _ _ (hset.out start) (fun b hb=>Below.heap_setCell _ _ _ _ fun e2=>hb (e2 ▸ hFL)) (by simp)
theorem slotR5 (C:Code)(hC:C=slotR 5){B:Nat}{c:TCfg}{S:TCfgS}{sc:TScr}{Z:TScrS}{gm:Nat}{m:Nat}{last:List Int}{k:List (List TWay)}{F FL FK:Nat→Prop}{A:Option Addr}{n:Nat}{Al:Option Addr}{nl:Nat}{Ak:Option Addr}{nk:Nat}{Wb W0:World}{d:TDom}{T:TDomS}{G:Nat→Nat→Prop}{Gi:Nat→Prop}{gb:Nat}{to_:Int}(hM:MachT B c S sc Z gm m last k F FL FK A n Al nl Ak nk Gi W0 d T G Wb)(hbx:Wb.heap[gb]?=some (.cells #[.slice T.a0 d.jobs.length T.n0,.slice T.a1 d.released.length T.n1,.int .i64 d.next,.slice T.a2 d.ins.length T.n2,.slice T.a3 d.taken.length T.n3,.slice T.a4 d.outs.length T.n4,.slice T.a5 d.events.length T.n5] 46))(hgb:Hid (W0.heap.size≤gb))(hg1:∀j,¬ G j gb)(hMl:Hid (∀b,F b∨FL b∨FK b→b < W0.heap.size))(hgm:Hid (gm < W0.heap.size))(hev:d.events.length+1≤4398046511104)
  {u0 u1 u2 u3 u4 u5 u6 u9 u10 u11 u12 u13 u14 u15 u16 u17 u18 u19 u20 u21 u22 u23 u24 u25 u26 u27 u28 u29 u30 u31 u32 u33 u34 u35 u36 u37 u38 u39 u40 u41 u42 u43 u44 u45 u46 u47 u48 u49 u50 u51 u52 u53 u54 u55 u56 u57 u58 u59 u60 u61 u62 u63 u64 u65 u66 u67 u68 u69 u70 u71 u72 u73 u74 u75 u76 u77 u78 u79 u80 u81 u82 u83 u84 u85 u86 u87 u88 u89 u90 u91 u92 u93 u94 u95 u96 u97 u98 u99 u100 u101 u102 u103 u104 u105 u106 u107 u108 u109 u110 u111 u112 u113 u114 u115 u116 u117 u118:Value} {Q:Exit→Act→World→Prop}
  (hQ:∀(v95 v96 v97 v98 v99 v100 v101:Value) (T':TDomS) (G':Nat→Nat→Prop) (W':World),MachT B c S sc Z gm m last k F FL FK A n Al nl Ak nk Gi W0 (tellOf d to_ 13 0 0) T' G' W'→W'.heap[gb]?=some (.cells #[.slice T'.a0 (tellOf d to_ 13 0 0).jobs.length T'.n0,.slice T'.a1 (tellOf d to_ 13 0 0).released.length T'.n1,.int .i64 (tellOf d to_ 13 0 0).next,.slice T'.a2 (tellOf d to_ 13 0 0).ins.length T'.n2,.slice T'.a3 (tellOf d to_ 13 0 0).taken.length T'.n3,.slice T'.a4 (tellOf d to_ 13 0 0).outs.length T'.n4,.slice T'.a5 (tellOf d to_ 13 0 0).events.length T'.n5] 46)→gb < W'.heap.size→(∀j,¬ G' j gb)→Q .normal ⟨[u0,u1,u2,u3,u4,u5,u6,.int .i64 to_,.pointer (some ⟨gb,0,none⟩),u9,u10,u11,u12,u13,u14,u15,u16,u17,u18,u19,u20,u21,u22,u23,u24,u25,u26,u27,u28,u29,u30,u31,u32,u33,u34,u35,u36,u37,u38,u39,u40,u41,u42,u43,u44,u45,u46,u47,u48,u49,u50,u51,u52,u53,u54,u55,u56,u57,u58,u59,u60,u61,u62,u63,u64,u65,u66,u67,u68,u69,u70,u71,u72,u73,u74,u75,u76,u77,u78,u79,u80,u81,u82,u83,u84,u85,u86,u87,u88,u89,u90,u91,u92,u93,u94,v95,v96,v97,v98,v99,v100,v101,u102,u103,u104,u105,u106,u107,u108,u109,u110,u111,u112,u113,u114,u115,u116,u117,u118].toArray,[]⟩ W'):
  Code.wp Tryd.prog C Q ⟨[u0,u1,u2,u3,u4,u5,u6,.int .i64 to_,.pointer (some ⟨gb,0,none⟩),u9,u10,u11,u12,u13,u14,u15,u16,u17,u18,u19,u20,u21,u22,u23,u24,u25,u26,u27,u28,u29,u30,u31,u32,u33,u34,u35,u36,u37,u38,u39,u40,u41,u42,u43,u44,u45,u46,u47,u48,u49,u50,u51,u52,u53,u54,u55,u56,u57,u58,u59,u60,u61,u62,u63,u64,u65,u66,u67,u68,u69,u70,u71,u72,u73,u74,u75,u76,u77,u78,u79,u80,u81,u82,u83,u84,u85,u86,u87,u88,u89,u90,u91,u92,u93,u94,u95,u96,u97,u98,u99,u100,u101,u102,u103,u104,u105,u106,u107,u108,u109,u110,u111,u112,u113,u114,u115,u116,u117,u118].toArray,[]⟩ Wb:=by
 subst hC
 replace hQ:=zH hQ
 conv=>arg 2;whnf
 obtain ⟨cA,fA,zA⟩:=blk hbx
 have hOt:=hM.dom
 have hlo:=hM.lo
 have hgs:=(blk hM.blk).2.2
 have hBw:B≤Wb.heap.size:=by omega
 have hap:∀i b,G i b→B≤b:=fun i b hb=>(hM.gx i b hb).1
 have hown:ownsZ Wb 79 4 (.slice T.a5 d.events.length T.n5) d.events.length (d.events.flatMap TEv.cells):=(ozl_flat.1 hOt.o5).1
 have hrow:∀b,rowZ (.slice T.a5 d.events.length T.n5)=some b→G 5 b:=(ozl_flat.1 hOt.o5).2
 have HV2:=fun {A:Option Addr} {cc:Nat} {W w3:World} =>zH (dom_events hOt hap hBw ⟨to_,13,0,0⟩ (A:=A) (cc:=cc) (W:=W) (w3:=w3))
 have h1e:∀u∈[Value.int .i64 to_,.int .i64 13,.int .i64 0,.int .i64 0],u.oneCell'=true:=by intro u hu;exact one_ev [⟨to_,13,0,0⟩] u (by simpa [TEv.cells] using hu)
 replace hown:=zH hown
 replace hM:=zH hM
 clear hOt hlo hgs
 go_wp2_with (at_builtin;refine wpList_appZ rfl (.tmp 96) (.tmp 99) _ rfl tyEv (.slice T.a5 d.events.length T.n5) d.events.length (d.events.flatMap TEv.cells) (by rfl) (ownZ_keep hown.out (fun b hb=>heap_alloc_old _ _ (ownZ_lt hown.out b hb))) (some ⟨Wb.heap.size,0,none⟩) 1 1 [.int .i64 to_,.int .i64 13,.int .i64 0,.int .i64 0] (by rfl) byR h1e (by unfold maxLen;omega) (by omega) (fun A3 c3 w3 own3 gr3 at3=>?_);have z3:Wb.heap.size+1≤w3.heap.size:=(by have:=gr3.size;simpa using this);have hbA:w3.heap[gb]?=some (.cells #[.slice T.a0 d.jobs.length T.n0,.slice T.a1 d.released.length T.n1,.int .i64 d.next,.slice T.a2 d.ins.length T.n2,.slice T.a3 d.taken.length T.n3,.slice T.a4 d.outs.length T.n4,.slice T.a5 d.events.length T.n5] 46):=(gr3.block _ byS (fun e=>hg1 5 (hrow _ e.symm))).trans (by exact byH);clear cA fA;obtain ⟨cA,fA,zA'⟩:=blk hbA)
 have hh:=(HV2 (W:=Wb.alloc (.cells #[.int .i64 to_,.int .i64 13,.int .i64 0,.int .i64 0] 79))).out byB (by simpa [TEv.cells] using own3) gr3 at3
 obtain ⟨hO5,hE5⟩:=hh
 simp only [World.size_alloc] at hO5 hE5
 have hMl':∀b,F b→b < W0.heap.size:=fun b hb=>hMl.out b (.inl hb)
 have hM5:=hM.out.turn hMl' hO5 hE5
 have hn5:∀j,¬ addG G 5 (Wb.heap.size+1) w3.heap.size j gb:=fun j hj=>by
  rcases hj with hj|hj
  ·exact hg1 j hj
  ·omega
 have hx5:=heap_set_same (i:=6) (u:= .slice A3 (d.events.length+1) c3) hbA
 exact hQ.out _ _ _ _ _ _ _ {T with a5:=A3,n5:=c3} _ _ (hM5.far (gb:=gb) (fun b hb=>Below.heap_setCell _ _ _ _ hb) (Below.setCell (Below.refl _ _) (Nat.zero_le _) _) hgb.out hn5 hMl.out hgm.out) (by simpa [tellOf] using hx5) (by simp;omega) hn5
theorem slotR6 (C:Code)(hC:C=slotR 6){B:Nat}{c:TCfg}{S:TCfgS}{sc:TScr}{Z:TScrS}{gm:Nat}{ds:List TDom}{last:List Int}{k:List (List TWay)}{F FL FK:Nat→Prop}{g:Nat}{n:Nat}{Al:Option Addr}{nl:Nat}{Ak:Option Addr}{nk:Nat}{Wb W0:World}{d:TDom}{T:TDomS}{G:Nat→Nat→Prop}{Gi:Nat→Prop}{gb dn:Nat}(hM:MachT B c S sc Z gm ds.length last k F FL FK (some ⟨g,0,none⟩) n Al nl Ak nk Gi W0 d T G Wb)(hbx:Wb.heap[gb]?=some (.cells #[.slice T.a0 d.jobs.length T.n0,.slice T.a1 d.released.length T.n1,.int .i64 d.next,.slice T.a2 d.ins.length T.n2,.slice T.a3 d.taken.length T.n3,.slice T.a4 d.outs.length T.n4,.slice T.a5 d.events.length T.n5] 46))(hdn:dn < ds.length){d0:TDom}{T0:TDomS}(KD0:∀j u,(d0.cells T0)[j]?=some u→W0.cell? ⟨g,dn*7+j,none⟩=some u)(hg:F g)(hgG:¬ Gi g)(hf:∀o,W0.frozen? ⟨g,o,none⟩=false)(hput:Hid (∀(W:World) (d':TDom) (T':TDomS) (G':Nat→Nat→Prop),DomO G' W d' T'→(∀j b,G' j b→Gi b∨W0.heap.size≤b)→(∀b,F b→¬ Gi b→W.heap[b]?=W0.heap[b]?)→DomsO (fun b=>F b∨∃j,G' j b) (((((((W.setCell ⟨g,dn*7,none⟩ (.slice T'.a0 d'.jobs.length T'.n0)).setCell ⟨g,dn*7+1,none⟩ (.slice T'.a1 d'.released.length T'.n1)).setCell ⟨g,dn*7+2,none⟩ (.int .i64 d'.next)).setCell ⟨g,dn*7+3,none⟩ (.slice T'.a2 d'.ins.length T'.n2)).setCell ⟨g,dn*7+4,none⟩ (.slice T'.a3 d'.taken.length T'.n3)).setCell ⟨g,dn*7+5,none⟩ (.slice T'.a4 d'.outs.length T'.n4)).setCell ⟨g,dn*7+6,none⟩ (.slice T'.a5 d'.events.length T'.n5)) (.slice (some ⟨g,0,none⟩) ds.length n) (ds.set dn d')))
  {u1 u2 u3 u4 u5 u7 u9 u10 u11 u12 u13 u14 u15 u16 u17 u18 u19 u20 u21 u22 u23 u24 u25 u26 u27 u28 u29 u30 u31 u32 u33 u34 u35 u36 u37 u38 u39 u40 u41 u42 u43 u44 u45 u46 u47 u48 u49 u50 u51 u52 u53 u54 u55 u56 u57 u58 u59 u60 u61 u62 u63 u64 u65 u66 u67 u68 u69 u70 u71 u72 u73 u74 u75 u76 u77 u78 u79 u80 u81 u82 u83 u84 u85 u86 u87 u88 u89 u90 u91 u92 u93 u94 u95 u96 u97 u98 u99 u100 u101 u102 u103 u104 u105 u106 u107 u108 u109 u110 u111 u112 u113 u114 u115 u116 u117 u118:Value} {Q:Exit→Act→World→Prop}
  (hQ:∀(v102 v103 v104 v105 v106 v107 v108:Value) (W':World),MachW B c S sc Z gm (ds.set dn d) last k (fun b=>F b∨∃j,G j b) FL FK (some ⟨g,0,none⟩) n Al nl Ak nk W'→MEff F Wb W'→Q .normal ⟨List.toArray (.pointer (some ⟨gm,0,none⟩)::u1::u2::u3::u4::u5:: .int .i64 (dn:Nat)::u7:: .pointer (some ⟨gb,0,none⟩)::u9::u10::u11::u12::u13::u14::u15::u16::u17::u18::u19::u20::u21::u22::u23::u24::u25::u26::u27::u28::u29::u30::u31::u32::u33::u34::u35::u36::u37::u38::u39::u40::u41::u42::u43::u44::u45::u46::u47::u48::u49::u50::u51::u52::u53::u54::u55::u56::u57::u58::u59::u60::u61::u62::u63::u64::u65::u66::u67::u68::u69::u70::u71::u72::u73::u74::u75::u76::u77::u78::u79::u80::u81::u82::u83::u84::u85::u86::u87::u88::u89::u90::u91::u92::u93::u94::u95::u96::u97::u98::u99::u100::u101::v102::v103::v104::v105::v106::v107::v108::u109::u110::u111::u112::u113::u114::u115::u116::u117::u118::[]),[]⟩ W'):
  Code.wp Tryd.prog C Q ⟨List.toArray (.pointer (some ⟨gm,0,none⟩)::u1::u2::u3::u4::u5:: .int .i64 (dn:Nat)::u7:: .pointer (some ⟨gb,0,none⟩)::u9::u10::u11::u12::u13::u14::u15::u16::u17::u18::u19::u20::u21::u22::u23::u24::u25::u26::u27::u28::u29::u30::u31::u32::u33::u34::u35::u36::u37::u38::u39::u40::u41::u42::u43::u44::u45::u46::u47::u48::u49::u50::u51::u52::u53::u54::u55::u56::u57::u58::u59::u60::u61::u62::u63::u64::u65::u66::u67::u68::u69::u70::u71::u72::u73::u74::u75::u76::u77::u78::u79::u80::u81::u82::u83::u84::u85::u86::u87::u88::u89::u90::u91::u92::u93::u94::u95::u96::u97::u98::u99::u100::u101::u102::u103::u104::u105::u106::u107::u108::u109::u110::u111::u112::u113::u114::u115::u116::u117::u118::[]),[]⟩ Wb:=by
 subst hC
 replace hQ:=zH hQ
 conv=>arg 2;whnf
 obtain ⟨cb,fb,zb⟩:=blk hbx
 obtain ⟨cm,fm,zm⟩:=blk hM.blk
 have hlive:Wb.heap[g]?=W0.heap[g]?:=hM.oth g hg hgG
 have fg:∀o,Wb.frozen? ⟨g,o,none⟩=false:=fun o=>(frozen_of_heap hlive).trans (hf o)
 have kc:=fun j u (e:(d0.cells T0)[j]?=some u)=>(cell_of_heap hlive).trans (KD0 j u e)
 have i0:(0:Int)≤(dn:Nat):=by omega
 have i1:((dn:Nat):Int) < ds.length:=by omega
 have hbd:Below Wb.heap.size Wb Wb.drew:=(Below.refl _ _).drew
 have hM1:=hM.ext hbd
 have HX:=hM1.back (i:=dn) (ds:=ds) (g:=g) hg (hput.out Wb.drew d T G hM1.dom hM1.gr hM1.oth)
 replace HX:=zH HX
 have hBB:MEff F Wb (((((((Wb.drew.setCell ⟨g,dn*7,none⟩ (.slice T.a0 d.jobs.length T.n0)).setCell ⟨g,dn*7+1,none⟩ (.slice T.a1 d.released.length T.n1)).setCell ⟨g,dn*7+2,none⟩ (.int .i64 d.next)).setCell ⟨g,dn*7+3,none⟩ (.slice T.a2 d.ins.length T.n2)).setCell ⟨g,dn*7+4,none⟩ (.slice T.a3 d.taken.length T.n3)).setCell ⟨g,dn*7+5,none⟩ (.slice T.a4 d.outs.length T.n4)).setCell ⟨g,dn*7+6,none⟩ (.slice T.a5 d.events.length T.n5)):=(MEff.ofBelow hbd).trans (M':=F) ⟨(((((((Below.refl 0 Wb.drew).setCell (Nat.zero_le _) _).setCell (Nat.zero_le _) _).setCell (Nat.zero_le _) _).setCell (Nat.zero_le _) _).setCell (Nat.zero_le _) _).setCell (Nat.zero_le _) _).setCell (Nat.zero_le _) _,fun b hb hn=>put7_far fun e=>hn (e ▸ hg)⟩ fun b hb=> .inl hb
 replace hBB:=zH hBB
 clear hM hM1 hput hlive hf KD0 hbd
 (refine wp_region_still_tail 7 (by kernel_rfl) (by kernel_rfl) ?_;simp only [List.take_succ_cons,List.take_zero,List.drop_succ_cons,List.drop_zero];(iterate 7 (with_reducible refine wpStill_step (fun K hK=>?_);replace hK:=zH hK;go_simp;with_reducible refine hK.out _ ?_;clear hK K));refine wpStill_nil ?_)
 change wpList _ _ _ _ _ Wb.drew
 have k0:Wb.drew.cell? ⟨g,dn*7,none⟩=_:=kc 0 _ rfl
 have k1:Wb.drew.cell? ⟨g,dn*7+1,none⟩=_:=kc 1 _ rfl
 have k2:Wb.drew.cell? ⟨g,dn*7+2,none⟩=_:=kc 2 _ rfl
 have k3:Wb.drew.cell? ⟨g,dn*7+3,none⟩=_:=kc 3 _ rfl
 have k4:Wb.drew.cell? ⟨g,dn*7+4,none⟩=_:=kc 4 _ rfl
 have k5:Wb.drew.cell? ⟨g,dn*7+5,none⟩=_:=kc 5 _ rfl
 have k6:Wb.drew.cell? ⟨g,dn*7+6,none⟩=_:=kc 6 _ rfl
 have f1:∀o,Wb.drew.frozen? ⟨g,o,none⟩=false:=fg
 clear kc fg cb fb zb cm fm zm
 generalize Wb.drew=W1 at*
 go_wp2_with fail
 exact hQ.out _ _ _ _ _ _ _ _ HX.out hBB.out
theorem nth_nil_of {T:Type}{xs:List (List T)}{j:Nat}(h:∀i,i < xs.length→nth xs i=[]):nth xs j=[]:=by
 by_cases e:j < xs.length
 ·exact h j e
 ·unfold nth
  rw [List.getD_eq_getElem?_getD,List.getElem?_eq_none (by omega)]
  rfl
theorem execSlot {B:Nat}{c:TCfg}{S:TCfgS}{sc:TScr}{Z:TScrS}{gm:Nat}{m:Mach}{j sn:Nat}{start:Int}{F FL FK:Nat→Prop}{A:Option Addr}{n:Nat}{Al:Option Addr}{nl:Nat}{Ak:Option Addr}{nk:Nat}(h:ScrOk c sc)(hm:MachOk c j m)(hj:j≤48)(hsn:sn < c.slots.length)(ht:0≤start∧start≤60000)
  (w:World) (hM:MachW B c S sc Z gm m.ds m.last (cache0 c) F FL FK A n Al nl Ak nk w):
  Calls Tryd.prog 35 #[.pointer (some ⟨gm,0,none⟩),.int .i64 (sn:Nat),.int .i64 start] w fun e w'=>e= .returned (.tuple #[])∧∃F',MachW B c S sc Z gm (slotAll c sc (sn:Nat) start m).ds (slotAll c sc (sn:Nat) start m).last (slotWinK c sc (sn:Nat) start m) F' FL FK A n Al nl Ak nk w'∧MEff (MOwn gm F FL FK) w w'∧∀b,F' b→F b∨w.heap.size≤b:=by
 have hS:=slot_ok (s:=(sn:Nat)) h hm ⟨by omega,by omega⟩ ht
 have he:=slotOut_events hS hm
 have hlv:=slot_lv hS hm
 have ok:=h.cfg
 have hsl:=ok.slot sn hsn
 have hpd:=ok.pad
 have h9:0≤5*c.sets*c.ways:=Int.mul_nonneg (by have:=ok.sets;omega) (by have:=ok.ways;omega)
 have hin:slotIn c sc (sn:Nat) start m=openOf c sc.arrivals (sn:Nat) (nth m.ds (slotDom c (sn:Nat)).toNat) (nth m.last (slotDom c (sn:Nat)).toNat) start:=rfl
 obtain ⟨dn,edn⟩:=Int.eq_ofNat_of_zero_le hS.dom.1
 have eto:start+(nth c.slots sn).len - c.pad=slotTo c (sn:Nat) start:=rfl
 have edm:(nth c.slots sn).dom=(dn:Nat):=edn
 have e1:(slotDom c (sn:Nat)).toNat=dn:=by rw [edn];rfl
 have hop:=hS.opened
 have hac:=hS.acts
 have htm:=hS.time
 have hkl:=hS.win.shape.1
 have hlt:=hS.lt
 have hR:slotAll c sc (sn:Nat) start m=⟨closeOf c (sn:Nat) (m.ds.set dn (tellOf (windowD c (dn:Nat) (slotIn c sc (sn:Nat) start m) (cache0 c) (nth sc.actions dn) start (slotTo c (sn:Nat) start)) (slotTo c (sn:Nat) start) 13 0 0)),m.last.set dn start,max m.most (flushOf (slotWinK c sc (sn:Nat) start m))⟩:=by
  unfold slotAll slotOut slotWinD slotActs;rw [e1,edn]
 have hK2:slotWinK c sc (sn:Nat) start m=windowK c (dn:Nat) (slotIn c sc (sn:Nat) start m) (cache0 c) (nth sc.actions dn) start (slotTo c (sn:Nat) start):=by
  unfold slotWinK slotActs;rw [e1,edn]
 have hD2:slotWinD c sc (sn:Nat) start m=windowD c (dn:Nat) (slotIn c sc (sn:Nat) start m) (cache0 c) (nth sc.actions dn) start (slotTo c (sn:Nat) start):=by
  unfold slotWinD slotActs;rw [e1,edn]
 have hO2:slotOut c sc (sn:Nat) start m=tellOf (windowD c (dn:Nat) (slotIn c sc (sn:Nat) start m) (cache0 c) (nth sc.actions dn) start (slotTo c (sn:Nat) start)) (slotTo c (sn:Nat) start) 13 0 0:=by
  unfold slotOut;rw [hD2]
 rw [hR,hK2]
 rw [e1,hO2] at hlv
 rw [hD2] at he
 unfold slotActs at hac
 rw [e1] at hac hlt hin
 have hkl2:(windowK c (dn:Nat) (slotIn c sc (sn:Nat) start m) (cache0 c) (nth sc.actions dn) start (slotTo c (sn:Nat) start)).length=(cache0 c).length:=by
  have:=hkl;unfold slotActs at this;rw [e1,edn] at this;exact this
 rw [edn] at hop
 have hou:∀i,nth (slotIn c sc (sn:Nat) start m).outs i=[]:=fun i=>nth_nil_of fun i hi=>by
  rw [hop.lout] at hi
  rw [hin,openOf_outs]
  exact hm.out _ i hlt hi
 have hwi:WinIn c (dn:Nat) (slotTo c (sn:Nat) start) ⟨start,slotIn c sc (sn:Nat) start m,cache0 c⟩:=⟨⟨by dsimp only;omega,by dsimp only;omega⟩,hop,cache0_ok ok⟩
 rw [hin] at hlv he hkl2 hou hwi⊢
 have hdk:=hm.ok dn hlt
 have hll:=hm.llen
 have hle:=hm.ev dn hlt
 have hal:=h.len
 have hml:=hm.len
 clear hop hkl hS hin hR hK2 hD2 hO2
 generalize htt:slotTo c (sn:Nat) start=to_ at*
 replace hlv:=zH hlv
 replace he:=zH he
 replace hkl2:=zH hkl2
 replace hou:=zH hou
 replace hwi:=zH hwi
 replace hM:=zH hM
 go_enter Tryd.func35,Tryd.ntmps35
 go_upto_region 0 with (fail)
 refine slotR0 _ (by kernel_rfl) hM.out hsn ?_
 intro _ _ _ _ _ _ _ _ _ Wa ha
 rw [edm]
 go_upto_region 1 with (fail)
 refine slotR1 _ (by kernel_rfl) (hM.out.ext ha) hsn ⟨by omega,by omega⟩ (by omega) (by omega) ?_
 intro _ _ _ _ _ _ _ _ _ _ _ _ _ _ _ _ _ Wb hb
 rw [eto]
 have hMb:=(hM.out.ext ha).ext hb
 have hFlt:∀b,F b→b < Wb.heap.size:=fun b hb=>(hMb.fp b (.inl hb)).2.1
 obtain ⟨g,T0,G0,Gi,rfl,hFg,hgl,hcs,hfr,hO,hG,hGi,hput⟩:=doms_take hMb.dom hlt hFlt
 obtain ⟨gl,rfl,-⟩:=hMb.setLast (i:=dn) (by omega)
 go_upto_region 2 with (fail)
 refine slotR2 _ (by kernel_rfl) ok hMb hlt (by omega) hsn hgl hcs hO hG (fun b hb=>(hGi b hb).1) h.arrs.1 (fun i hi=>(h.arrs.2 i hi).2.2) hdk.ltak hdk.tak (by omega) ?_
 intro _ _ _ _ _ _ _ _ _ _ _ _ _ _ _ _ _ _ _ _ _ _ _ _ _ gb T1 G1 W2 hM2 hx2 hb0 hb1 hg1
 have hMl:Hid (∀b,F b∨FL b∨FK b→b < Wb.heap.size):=zH fun b hb=>(hMb.fp b hb).2.1
 have hgm:Hid (gm < Wb.heap.size):=zH hMb.size
 replace hMb:=zH hMb
 have hgb:=zH hb0
 go_upto_region 3 with (fail)
 refine slotR3 _ (by kernel_rfl) hM2 (by omega) ?_
 intro _ _ _ _ _ _ _ W3 hM3 hk3 hz3
 have hx3:=(hk3 gb fun e=>by have:=hMl.out gb (.inr (.inl e));omega).trans hx2
 go_upto_region 4 with (fail)
 refine slotR4 _ (by kernel_rfl) ok hM3 (by omega) hx3 hgb hg1 hMl hgm hac.1 hac.2 (by omega) hwi.out (by have:=he.out.1;omega) (fun j=>by rw [hou.out j];simp) hkl2.out ?_
 intro _ _ _ _ _ _ _ _ _ _ _ _ _ _ _ _ _ _ _ _ _ _ _ _ _ _ _ T4 G4 W4 hM4 hx4 hb4 hg4
 go_upto_region 5 with (fail)
 refine slotR5 _ (by kernel_rfl) hM4 hx4 hgb hg4 hMl hgm (by have:=he.out.2.1;omega) ?_
 intro _ _ _ _ _ _ _ T5 G5 W5 hM5 hx5 hb5 hg5
 have hE5:=hM5.eff
 have hgr:=hM5.gr
 go_upto_region 6 with (fail)
 refine slotR6 _ (by kernel_rfl) hM5 hx5 hlt hcs hFg (fun e=>(hGi g e).2 rfl) hfr (zH hput) ?_
 intro _ _ _ _ _ _ _ W6 hM6 hE6
 go_upto_region 7 with (fail)
 refine slotR7 _ (by kernel_rfl) ok hM6 hlv.out ⟨by omega,by omega⟩ ?_
 intro _ _ _ _ _ _ _ _ _ _ F7 W7 hM7 hE7 hF7
 have hw:Below w.heap.size w Wb:=ha.trans (hb.mono ha.size)
 have hFF:∀b,(F b∨∃j,G5 j b)→F b∨Wb.heap.size≤b:=fun b hb=>by
  rcases hb with hb|⟨j,hb⟩
  ·exact .inl hb
  ·rcases hgr j b hb with e|e
   ·exact .inl (hGi b e).1
   ·exact .inr e
 have hwz:=hw.size
 have hz6:=hE5.below.size
 have hz7:=hE6.below.size
 have hE:MEff (MOwn gm F FL FK) w W7:=(((MEff.ofBelow hw).trans hE5 fun b hb=> .inl hb).trans hE6 fun b hb=> .inl (.inr (.inl hb))).trans hE7 fun b hb=>by
  rcases hFF b hb with e|e
  ·exact .inl (.inr (.inl e))
  ·exact .inr (by omega)
 have hFw:∀b,F7 b→F b∨w.heap.size≤b:=fun b hb=>by
  rcases hF7 b hb with e|e
  ·rcases hFF b e with e|e
   ·exact .inl e
   ·exact .inr (by omega)
  ·exact .inr (by omega)
 replace hM7:=zH hM7
 replace hE:=zH hE
 replace hFw:=zH hFw
 clear hM2 hM3 hM4 hM5 hM6 hE5 hE6 hE7 hput hcs hO hG hGi hgr
 go_wp2_with fail
 refine bodyPost_end (v:= .tuple #[]) (by simp [results,Tryd.results35,go_sem, *]) rfl ?_
 exact ⟨rfl,F7,hM7.out,hE.out,hFw.out⟩
end
section
set_option maxRecDepth 100000
set_option maxHeartbeats 400000
def flushAt (c:List (List TWay)) (i k:Nat):Int:=2+5*((((c.take i).map dirties).sum+dirties ((nth c i).take k):Nat):Int)
theorem flushAt_zero (c:List (List TWay)):flushAt c 0 0=2:=by simp [flushAt,dirties]
theorem flushAt_step {c:List (List TWay)}{i k:Nat}(h:k < (nth c i).length):flushAt c i (k+1)=if (nth (nth c i) k).dirty then flushAt c i k+5 else flushAt c i k:=by
 unfold flushAt
 rw [take_snoc h]
 unfold dirties
 rw [List.filter_append,List.length_append]
 cases hd:(nth (nth c i) k).dirty<;>simp [hd]<;>omega
theorem flushAt_set {c:List (List TWay)}{i:Nat}(h:i < c.length):flushAt c (i+1) 0=flushAt c i (nth c i).length:=by
 unfold flushAt
 rw [take_snoc h,List.map_append,List.sum_append,List.take_length]
 simp [dirties]
theorem flushAt_end (c:List (List TWay)):flushAt c c.length 0=flushOf c:=by simp [flushAt,flushOf,dirties]
theorem flushAt_bd {c:List (List TWay)}(h:c.length≤4)(h3:∀i,i < c.length→(nth c i).length≤3)(i k:Nat)(hi:i≤c.length)(hk:i < c.length∨k=0):2≤flushAt c i k∧flushAt c i k≤1000:=by
 unfold flushAt
 have h1:((c.take i).map dirties).sum≤((c.take i).map dirties).length*3:=sum_le (by
  intro x hx
  obtain ⟨ws,hws,rfl⟩:=List.mem_map.1 hx
  obtain ⟨j,hj,rfl⟩:=List.getElem_of_mem (List.mem_of_mem_take hws)
  have:=h3 j hj
  rw [nth_eq hj] at this
  exact Nat.le_trans (List.length_filter_le _ _) this)
 rw [List.length_map,List.length_take] at h1
 have h2:dirties ((nth c i).take k)≤3:=by
  rcases hk with hk|rfl
  ·exact Nat.le_trans (List.length_filter_le _ _) (Nat.le_trans (List.length_take_le' _ _) (h3 i hk))
  ·simp [dirties]
 omega
theorem cacheClear (c:List (List TWay))(ok:CacheOk c)(A:Option Addr)(n B:Nat)(w:World)(hB:B≤w.heap.size)(hs:Sl cWay.slice (Low B) w A n c):
  Calls Tryd.prog 36 #[.agg #[.slice A c.length n]] w (RetCacheI (emptyCache c.length (nth c 0).length) (flushOf c) w):=by
 have h4:=ok.h4
 have h0:0 < c.length:=ok.h1
 have hw3:=ok.w3
 have h3:∀i,i < c.length→(nth c i).length≤3:=fun i hi=>by rw [ok.same i hi];exact hw3
 have HBD:=zH (flushAt_bd h4 h3)
 have H3:=zH h3
 have H:=zH (fun W=>cacheEmpty c.length (nth c 0).length W (by omega) (by omega))
 have HL:=zH (show (emptyCache c.length (nth c 0).length).length=c.length by simp [emptyCache])
 generalize emptyCache c.length (nth c 0).length=ec at*
 clear h3 ok
 go_enter Tryd.func36,Tryd.ntmps36
 go_wp2_with fail
 go_loopw [4,12] (fun nv iv wr=>∃i:Nat,i≤c.length∧iv= .int .i64 i∧nv= .int .i64 (flushAt c i 0)∧wr.heap[w.heap.size]?=some (.cells #[.slice A c.length n] 66)∧wr.heap[w.heap.size+1]?=some (.cells #[.slice none 0 0] 66)∧Below w.heap.size w wr) (fun _ iv _=>c.length - (intOf iv).toNat)
 case atStart=>exact ⟨0,Nat.zero_le _,rfl,by rw [flushAt_zero],byH,byH,byB⟩
 case round=>
  obtain ⟨i,hi,rfl,rfl,hp,hr,hbr⟩:=hrel
  obtain ⟨wo,rfl⟩:∃wo:World,wo=wr:=⟨_,rfl⟩
  obtain ⟨cp,fp,zp⟩:=blk hp
  obtain ⟨cr,fr,zr⟩:=blk hr
  have so:=hbr.size
  by_cases hlt:i < c.length
  ·obtain ⟨b,o,A1,c1,rfl,hI,hcell,hin⟩:=(hs.next hB hbr).at_slice hlt
   have hl3:=H3.out i hlt
   go_wp2_with fail
   go_loopw [4,18] (fun nv kv wr=>∃k:Nat,k≤(nth c i).length∧kv= .int .i64 k∧nv= .int .i64 (flushAt c i k)∧wr.heap[w.heap.size]?=some (.cells #[.slice (some ⟨b,o,none⟩) c.length n] 66)∧wr.heap[w.heap.size+1]?=some (.cells #[.slice none 0 0] 66)∧Below wo.heap.size wo wr) (fun _ kv _=>(nth c i).length - (intOf kv).toNat)
   case atStart=>exact ⟨0,Nat.zero_le _,rfl,rfl,hp,hr,Below.refl _ _⟩
   case round=>
    obtain ⟨k,hk,rfl,rfl,hp,hr,hbi⟩:=hrel
    obtain ⟨cp,fp,zp⟩:=blk hp
    obtain ⟨cr,fr,zr⟩:=blk hr
    have si:=hbi.size
    obtain ⟨d1,d2⟩:=HBD.out i k (by omega) (.inl hlt)
    by_cases hkt:k < (nth c i).length
    ·obtain ⟨b',o',rfl,hI',hc0,hc1⟩:=(hin.next (Nat.le_trans hB so) hbi).at_way hkt
     have hst:=zH (flushAt_step hkt)
     cases hd:(nth (nth c i) k).dirty
     all_goals
      rw [hd] at hc1
      have E:=zH hd
      clear hd
      go_wp2_with fail
      go_roundw
      case rel=>exact ⟨k+1,by omega,by go_num,by rw [hst.out,E.out];rfl,byH,byH,byB⟩
      case measure=>simp [intOf];omega
    ·obtain rfl:k=(nth c i).length:=by omega
     have hst:=zH (flushAt_set hlt)
     go_wp2_with fail
     go_roundw
     case rel=>exact ⟨i+1,by omega,by go_num,by rw [hst.out],hp,hr,hbr.trans (hbi.mono so)⟩
     case measure=>simp [intOf];omega
  ·obtain rfl:i=c.length:=by omega
   have HF:=zH (flushAt_end c)
   generalize flushAt c c.length 0=fl at*
   obtain ⟨b,o,A1,c1,rfl,hI,hcell,hin⟩:=(hs.next hB hbr).at_slice h0
   rw [Nat.add_zero] at hcell
   have hm1:(nth c 0).length≤3:=H3.out 0 h0
   have hbl:b < wo.heap.size:=Nat.lt_of_lt_of_le hI (Nat.le_trans hB so)
   have hq0:(0:Int) < c.length:=by omega
   have hbw:b < w.heap.size:=Nat.lt_of_lt_of_le hI hB
   have hne1:b≠w.heap.size+1:=by omega
   have hne2:w.heap.size+1≠b:=by omega
   have hcp:wo.cell? ⟨w.heap.size,0,none⟩=some (.slice (some ⟨b,o,none⟩) c.length n):=(cp 0).trans rfl
   go_wp2_with fail
   go_region_held3 (fun w'=>w'.cell? ⟨w.heap.size,0,none⟩=some (.slice (some ⟨b,o,none⟩) c.length n)∧w'.cell? ⟨b,o,none⟩=some (.slice A1 (nth c 0).length c1)) (((try dsimp only);(repeat' apply And.intro)<;>(first|go_keep|(simp [go_sem, *];done))))
    (first|(go_at_call 32;refine (H.out _).mono ?_;rintro e w1 ⟨A2,c2,rfl,hO,hb1⟩;have hq1:w1.heap[w.heap.size+1]?=some (.cells #[.slice none 0 0] 66):=(hb1.block _ (by simp;omega)).trans byH;obtain ⟨cq,fq,zq⟩:=blk hq1;have k0:w1.cell? ⟨w.heap.size,0,none⟩=some (.slice (some ⟨b,o,none⟩) c.length n):=(hb1.cell (p:=⟨w.heap.size,0,none⟩) (by simp;omega)).trans hcp;have k1:w1.cell? ⟨b,o,none⟩=some (.slice A1 (nth c 0).length c1):=(hb1.cell (p:=⟨b,o,none⟩) (by simp;omega)).trans hcell))
   all_goals
    have s1:=hb1.size
    go_wp2_with fail
    refine bodyPost_ret (v:= .tuple #[.agg #[.slice A2 ec.length c2],.int .i64 fl]) (by simp [results,Tryd.results36,go_sem, *]) rfl ?_
    rw [HF.out]
    refine ⟨A2,c2,rfl,OSl.mono (OSl.keepI hO byI) ?_,byB⟩
    ·intro b hb;simp only [Rng] at hb⊢;simp at hb⊢;omega
end
end Go.Proofs.YtinlmkhlgclbfabDoor
