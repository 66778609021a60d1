/- SlotB -/
import Derived.Test.YtinlmkhlgclbfabDoorAs31
import Derived.Test.YtinlmkhlgclbfabDoorAs32
namespace Go.Proofs.YtinlmkhlgclbfabDoor
open Go.RowKit
set_option maxRecDepth 1000000
set_option maxHeartbeats 4000000
structure EntG (Wa:World) (d1:TDom) (P:TDomS→(Nat→Nat→Prop)→World→Prop) (l:Array Bool) (f:Nat→Value) (W:World) (T:TDomS) (G:Nat→Nat→Prop):Prop where
 ne:¬ Lst l 25→Below Wa.heap.size Wa W
 o:Lst l 25→Lst l 16∧Lst l 23
 en:Lst l 25→f 60= .agg #[.slice T.a0 d1.jobs.length T.n0,.slice T.a1 d1.released.length T.n1,.int .i64 d1.next,.slice T.a2 d1.ins.length T.n2,.slice T.a3 d1.taken.length T.n3,.slice T.a4 d1.outs.length T.n4,.slice T.a5 d1.events.length T.n5]∧P T G W
 bx:Lst l 26→∃gb,f 8= .pointer (some ⟨gb,0,none⟩)∧Wa.heap.size≤gb∧gb < W.heap.size∧(Lst l 25→∀j,¬ G j gb)∧W.heap[gb]?=some (.cells #[.slice none 0 0,.slice none 0 0,.int .i64 0,.slice none 0 0,.slice none 0 0,.slice none 0 0,.slice none 0 0] 46)
def EntS (Wa:World) (d1:TDom) (P:TDomS→(Nat→Nat→Prop)→World→Prop) (l:Array Bool) (f:Nat→Value) (W:World):Prop:=∃T G,EntG Wa d1 P l f W T G
section
variable {Wa W W' : World} {d1 : TDom} {P : TDomS → (Nat → Nat → Prop) → World → Prop} {l : Array Bool} {f : Nat → Value}
theorem entS_start (T:TDomS)(hl:∀i,¬ Lst l i)(hb:Below Wa.heap.size Wa W):EntS Wa d1 P l f W:=
 ⟨T,fun _ _=>False,fun _=>hb,fun h=>absurd h (hl 25),fun h=>absurd h (hl 25),fun h=>absurd h (hl 26)⟩
theorem EntS.ne (h:EntS Wa d1 P l f W)(hn:¬ Lst l 25):Below Wa.heap.size Wa W:=by obtain ⟨T,G,h⟩:=h;exact h.ne hn
theorem EntS.o (h:EntS Wa d1 P l f W)(hn:Lst l 25):Lst l 16∧Lst l 23:=by obtain ⟨T,G,h⟩:=h;exact h.o hn
theorem EntS.at (h:EntS Wa d1 P l f W){p:World→Prop}(h0:∀W,Below Wa.heap.size Wa W→p W)(h1:∀T G W,P T G W→p W):p W:=by
 obtain ⟨T,G,h⟩:=h
 by_cases e:Lst l 25
 ·exact h1 _ _ _ (h.en e).2
 ·exact h0 _ (h.ne e)
theorem EntS.skip (h:EntS Wa d1 P l f W){i dd:Nat}(hi:i ∉ [25,26]:=by decide)(hd:dd ∉ [8,60]:=by decide)(v:Value):EntS Wa d1 P (l.setIfInBounds i true) (upd f (some dd) v) W:=by
 obtain ⟨T,G,h⟩:=h
 simp only [List.mem_cons,List.not_mem_nil,or_false,not_or] at hi hd
 have bk:∀ {j},j=25∨j=26→Lst (l.setIfInBounds i true) j→Lst l j:=fun e h=>h.back (by omega)
 refine ⟨T,G,fun a=>h.ne fun c=>a c.fwd,fun a=>?_,fun a=>?_,fun a=>?_⟩
 ·exact ⟨(h.o (bk (.inl rfl) a)).1.fwd,(h.o (bk (.inl rfl) a)).2.fwd⟩
 ·rw [upd_ne f _ (show 60≠dd by omega)];exact h.en (bk (.inl rfl) a)
 ·rw [upd_ne f _ (show 8≠dd by omega)]
  obtain ⟨gb,h1,h2,h3,h4,h5⟩:=h.bx (bk (.inr rfl) a)
  exact ⟨gb,h1,h2,h3,fun c=>h4 (bk (.inl rfl) c),h5⟩
theorem EntS.box (h:EntS Wa d1 P l f W)(hP:∀T G W W',P T G W→Below W.heap.size W W'→P T G W')(hlt:∀T G W,P T G W→∀j b,G j b→b < W.heap.size)(hW:∀T G W,P T G W→Wa.heap.size≤W.heap.size):EntS Wa d1 P (l.setIfInBounds 26 true) (upd f (some 8) (.pointer (some ⟨W.heap.size,0,none⟩))) (W.alloc (.cells #[.slice none 0 0,.slice none 0 0,.int .i64 0,.slice none 0 0,.slice none 0 0,.slice none 0 0,.slice none 0 0] 46)):=by
 obtain ⟨T,G,h⟩:=h
 have hb:Below W.heap.size W (W.alloc (.cells #[.slice none 0 0,.slice none 0 0,.int .i64 0,.slice none 0 0,.slice none 0 0,.slice none 0 0,.slice none 0 0] 46)):=Below.alloc (Below.refl _ _) (Nat.le_refl _) _
 have bk:Lst (l.setIfInBounds 26 true) 25→Lst l 25:=fun h=>h.back (by decide)
 have hWW:Wa.heap.size≤W.heap.size:=by
  by_cases e:Lst l 25
  ·exact hW _ _ _ (h.en e).2
  ·exact (h.ne e).size
 refine ⟨T,G,fun a=>(h.ne fun c=>a c.fwd).trans (hb.mono hWW),fun a=>?_,fun a=>?_,fun _=>?_⟩
 ·exact ⟨(h.o (bk a)).1.fwd,(h.o (bk a)).2.fwd⟩
 ·rw [upd_ne f _ (show 60≠8 by omega)]
  obtain ⟨h1,h2⟩:=h.en (bk a)
  exact ⟨h1,hP _ _ _ _ h2 hb⟩
 ·refine ⟨W.heap.size,upd_at _ _ _,hWW,by simp,fun c j hj=>?_,heap_alloc_new _ _⟩
  have:=hlt _ _ _ (h.en (bk c)).2 j _ hj
  omega
theorem EntS.call (h:EntS Wa d1 P l f W)(hz:l.size=27∨l.size=28)(hn:¬ Lst l 25){T:TDomS}{G G0:Nat→Nat→Prop}{B:Nat}(ho:Lst l 16∧Lst l 23)(hP:P T G W')(hE:DEff B G0 G W W')(h0:∀j b,G0 j b→b < Wa.heap.size):EntS Wa d1 P (l.setIfInBounds 25 true) (upd f (some 60) (.agg #[.slice T.a0 d1.jobs.length T.n0,.slice T.a1 d1.released.length T.n1,.int .i64 d1.next,.slice T.a2 d1.ins.length T.n2,.slice T.a3 d1.taken.length T.n3,.slice T.a4 d1.outs.length T.n4,.slice T.a5 d1.events.length T.n5])) W':=by
 obtain ⟨_,_,h⟩:=h
 have self:Lst (l.setIfInBounds 25 true) 25:=Lst.self (by omega)
 refine ⟨T,G,fun a=>absurd self a,fun _=>⟨ho.1.fwd,ho.2.fwd⟩,fun _=>⟨upd_at _ _ _,hP⟩,fun a=>?_⟩
 rw [upd_ne f _ (show 8≠60 by omega)]
 obtain ⟨gb,k1,k2,k3,k4,k5⟩:=h.bx a.b
 have hg:∀j,¬ G0 j gb:=fun j hj=>by have:=h0 j gb hj;omega
 have hz:=hE.below.size
 exact ⟨gb,k1,k2,by omega,fun _ j hj=>by rcases hE.grow j gb hj with e|e;exact hg j e;omega,(hE.keep gb k3 hg).trans k5⟩
end
theorem slotR2 (C:Code)(hC:C=slotR 2){B:Nat}{c:TCfg}{S:TCfgS}{sc:TScr}{Z:TScrS}{gm:Nat}{ds:List TDom}{last:List Int}{k:List (List TWay)}{F FL FK:Nat→Prop}{g gl:Nat}{n:Nat}{nl:Nat}{Ak:Option Addr}{nk:Nat}{Wa:World}{sn dn:Nat}{start:Int}{T:TDomS}{G:Nat→Nat→Prop}{Gi:Nat→Prop}(ok:CfgOk c)(hM:MachW B c S sc Z gm ds last k F FL FK (some ⟨g,0,none⟩) n (some ⟨gl,0,none⟩) nl Ak nk Wa)(hdn:dn < ds.length)(hdl:dn < last.length)(hsn:sn < c.slots.length)
  (hgx:g < Wa.heap.size) (KD0:∀j u,((nth ds dn).cells T)[j]?=some u→Wa.cell? ⟨g,dn*7+j,none⟩=some u) (hO:DomO G Wa (nth ds dn) T) (hG:∀j b,G j b→Gi b) (hGi:∀b,Gi b→F b)
  (h40:sc.arrivals.length≤40) (hln:∀i,i < sc.arrivals.length→0≤(nth sc.arrivals i).line∧(nth sc.arrivals i).line < c.owners.length) (hlt:(nth ds dn).taken.length=c.owners.length) (htk:∀i,i < (nth ds dn).taken.length→0≤nth (nth ds dn).taken i∧nth (nth ds dn).taken i≤15) (hev:(nth ds dn).events.length+1≤4398046511104)
  {u3 u4 u5 u7 u8 u9 u10 u11 u12 u13 u14 u15 u16 u17 u18 u19 u20 u21 u22 u23 u24 u25 u26 u27 u28 u29 u30 u31 u32 u33 u34 u35 u36 u37 u38 u39 u40 u41 u42 u43 u44 u45 u46 u47 u48 u49 u50 u51 u52 u53 u54 u55 u56 u57 u58 u59 u60 u61 u62 u63 u64 u65 u66 u67 u68 u69 u70 u71 u72 u73 u74 u75 u76 u77 u78 u79 u80 u81 u82 u83 u84 u85 u86 u87 u88 u89 u90 u91 u92 u93 u94 u95 u96 u97 u98 u99 u100 u101 u102 u103 u104 u105 u106 u107 u108 u109 u110 u111 u112 u113 u114 u115 u116 u117 u118:Value} {Q:Exit→Act→World→Prop}
  (hQ:∀(v35 v36 v37 v38 v39 v40 v41 v42 v43 v44 v45 v46 v47 v48 v49 v50 v51 v52 v53 v54 v55 v56 v57 v58 v59:Value) (gb:Nat) (T':TDomS) (G':Nat→Nat→Prop) (W':World),MachT B c S sc Z gm ds.length last k F FL FK (some ⟨g,0,none⟩) n (some ⟨gl,0,none⟩) nl Ak nk Gi Wa (openOf c sc.arrivals (sn:Nat) (nth ds dn) (nth last dn) start) T' G' W'→W'.heap[gb]?=some (.cells #[.slice T'.a0 (openOf c sc.arrivals (sn:Nat) (nth ds dn) (nth last dn) start).jobs.length T'.n0,.slice T'.a1 (openOf c sc.arrivals (sn:Nat) (nth ds dn) (nth last dn) start).released.length T'.n1,.int .i64 (openOf c sc.arrivals (sn:Nat) (nth ds dn) (nth last dn) start).next,.slice T'.a2 (openOf c sc.arrivals (sn:Nat) (nth ds dn) (nth last dn) start).ins.length T'.n2,.slice T'.a3 (openOf c sc.arrivals (sn:Nat) (nth ds dn) (nth last dn) start).taken.length T'.n3,.slice T'.a4 (openOf c sc.arrivals (sn:Nat) (nth ds dn) (nth last dn) start).outs.length T'.n4,.slice T'.a5 (openOf c sc.arrivals (sn:Nat) (nth ds dn) (nth last dn) start).events.length T'.n5] 46)→Wa.heap.size≤gb→gb < W'.heap.size→(∀j,¬ G' j gb)→Q .normal ⟨List.toArray (.pointer (some ⟨gm,0,none⟩):: .int .i64 (sn:Nat):: .int .i64 start::u3::u4::u5:: .int .i64 (dn:Nat)::u7:: .pointer (some ⟨gb,0,none⟩)::u9::u10::u11::u12::u13::u14::u15::u16::u17::u18::u19::u20::u21::u22::u23::u24::u25::u26::u27::u28::u29::u30::u31::u32::u33::u34::v35::v36::v37::v38::v39::v40::v41::v42::v43::v44::v45::v46::v47::v48::v49::v50::v51::v52::v53::v54::v55::v56::v57::v58::v59::(.agg #[.slice T'.a0 (openOf c sc.arrivals (sn:Nat) (nth ds dn) (nth last dn) start).jobs.length T'.n0,.slice T'.a1 (openOf c sc.arrivals (sn:Nat) (nth ds dn) (nth last dn) start).released.length T'.n1,.int .i64 (openOf c sc.arrivals (sn:Nat) (nth ds dn) (nth last dn) start).next,.slice T'.a2 (openOf c sc.arrivals (sn:Nat) (nth ds dn) (nth last dn) start).ins.length T'.n2,.slice T'.a3 (openOf c sc.arrivals (sn:Nat) (nth ds dn) (nth last dn) start).taken.length T'.n3,.slice T'.a4 (openOf c sc.arrivals (sn:Nat) (nth ds dn) (nth last dn) start).outs.length T'.n4,.slice T'.a5 (openOf c sc.arrivals (sn:Nat) (nth ds dn) (nth last dn) start).events.length T'.n5])::u61::u62::u63::u64::u65::u66::u67::u68::u69::u70::u71::u72::u73::u74::u75::u76::u77::u78::u79::u80::u81::u82::u83::u84::u85::u86::u87::u88::u89::u90::u91::u92::u93::u94::u95::u96::u97::u98::u99::u100::u101::u102::u103::u104::u105::u106::u107::u108::u109::u110::u111::u112::u113::u114::u115::u116::u117::u118::[]),[]⟩ W'):
  Code.wp Tryd.prog C Q ⟨List.toArray (.pointer (some ⟨gm,0,none⟩):: .int .i64 (sn:Nat):: .int .i64 start::u3::u4::u5:: .int .i64 (dn:Nat)::u7::u8::u9::u10::u11::u12::u13::u14::u15::u16::u17::u18::u19::u20::u21::u22::u23::u24::u25::u26::u27::u28::u29::u30::u31::u32::u33::u34::u35::u36::u37::u38::u39::u40::u41::u42::u43::u44::u45::u46::u47::u48::u49::u50::u51::u52::u53::u54::u55::u56::u57::u58::u59::u60::u61::u62::u63::u64::u65::u66::u67::u68::u69::u70::u71::u72::u73::u74::u75::u76::u77::u78::u79::u80::u81::u82::u83::u84::u85::u86::u87::u88::u89::u90::u91::u92::u93::u94::u95::u96::u97::u98::u99::u100::u101::u102::u103::u104::u105::u106::u107::u108::u109::u110::u111::u112::u113::u114::u115::u116::u117::u118::[]),[]⟩ Wa:=by
 subst hC
 replace hQ:=zH hQ
 conv=>arg 2;whnf
 obtain ⟨gl',el,hgl,-,-,kl,-,-⟩:=hM.setLast hdl
 injection el with el
 injection el with el
 subst el
 have hlo:=hM.lo
 have hgs:=hM.size
 have hB:Hid (B≤Wa.heap.size):=zH (by omega)
 have KM:=zH (fun l f W (h:EntS Wa (openOf c sc.arrivals (sn:Nat) (nth ds dn) (nth last dn) start) (fun T G W=>MachT B c S sc Z gm ds.length last k F FL FK (some ⟨g,0,none⟩) n (some ⟨gl,0,none⟩) nl Ak nk Gi Wa (openOf c sc.arrivals (sn:Nat) (nth ds dn) (nth last dn) start) T G W) l f W)=>h.at (p:=fun W=>W.heap[gm]?=some (.cells #[.int .i64 c.sets,.int .i64 c.ways,.int .i64 c.doms,.int .i64 c.pad,.int .i64 c.quantum,.slice S.a0 c.slots.length S.n0,.slice S.a1 c.owners.length S.n1,.slice S.a2 c.chans.length S.n2,.slice S.a3 c.tasks.length S.n3,.slice Z.a0 sc.actions.length Z.n0,.slice Z.a1 sc.arrivals.length Z.n1,.int .i64 sc.rounds,.slice (some ⟨g,0,none⟩) ds.length n,.slice (some ⟨gl,0,none⟩) last.length nl,.slice Ak k.length nk] 68)) (fun W h=>(h.block _ hgs).trans hM.blk) fun _ _ _ h=>h.blk)
 have KD:=zH (fun W (h:Below Wa.heap.size Wa W) j u (e:((nth ds dn).cells T)[j]?=some u)=>(Below.cell h (p:=⟨g,_,none⟩) hgx).trans (KD0 j u e))
 have KL:=zH (fun W (h:Below Wa.heap.size Wa W)=>(Below.cell h (p:=⟨gl,_,none⟩) hgl).trans kl)
 have hFl:∀b,F b→b < Wa.heap.size:=fun b hb=>(hM.fp b (.inl hb)).2.1
 have h0G:=zH (fun j b (hb:G j b)=>hFl b (hGi b (hG j b hb)))
 have HE:=zH (fun W (h:Below Wa.heap.size Wa W)=>(turnEnter c S sc.arrivals Z.a1 Z.n1 (sn:Nat) (nth ds dn) T (nth last dn) start ok h40 hln ⟨by omega,by omega⟩ hlt htk hev G B W (Nat.le_trans hB.out h.size) (hM.cfg.next hB.out h) (hM.scr.s1.next hB.out h) (hO.keep (fun i b hb=>h.block b (hO.lt i b hb)) h.size) fun i b hb=>(hM.fp b (.inl (hGi b (hG i b hb)))).1).mono
  fun e w' ⟨T',G',h1,h2,h3⟩=>(⟨T',G',h1,h3,((MachT.start hM hO hG hGi).ext h).turn hFl h2 h3⟩:∃(T':TDomS) (G':Nat→Nat→Prop),e=Ending.returned (.agg #[.slice T'.a0 (openOf c sc.arrivals (sn:Nat) (nth ds dn) (nth last dn) start).jobs.length T'.n0,.slice T'.a1 (openOf c sc.arrivals (sn:Nat) (nth ds dn) (nth last dn) start).released.length T'.n1,.int .i64 (openOf c sc.arrivals (sn:Nat) (nth ds dn) (nth last dn) start).next,.slice T'.a2 (openOf c sc.arrivals (sn:Nat) (nth ds dn) (nth last dn) start).ins.length T'.n2,.slice T'.a3 (openOf c sc.arrivals (sn:Nat) (nth ds dn) (nth last dn) start).taken.length T'.n3,.slice T'.a4 (openOf c sc.arrivals (sn:Nat) (nth ds dn) (nth last dn) start).outs.length T'.n4,.slice T'.a5 (openOf c sc.arrivals (sn:Nat) (nth ds dn) (nth last dn) start).events.length T'.n5])∧DEff B G G' W w'∧(fun T G W=>MachT B c S sc Z gm ds.length last k F FL FK (some ⟨g,0,none⟩) n (some ⟨gl,0,none⟩) nl Ak nk Gi Wa (openOf c sc.arrivals (sn:Nat) (nth ds dn) (nth last dn) start) T G W) T' G' w'))
 have hMl:=zH (fun b (hb:F b∨FL b∨FK b)=>(hM.fp b hb).2.1)
 have hgm:=zH hgs
 have j0:(0:Int)≤(dn:Nat):=by omega
 have j1:((dn:Nat):Int) < ds.length:=by omega
 have j2:((dn:Nat):Int) < last.length:=by omega
 clear hM KD0 hO hG hGi h40 hln hlt htk hev hFl hdn hdl hsn kl hlo hgs
 refine wp_region_invT 27 [35,36,37,38,39,40,41,42,43,44,45,46,47,48,49,50,51,52,53,54,55,56,57,58,59,60,8] (fun l f W=>(EntS Wa (openOf c sc.arrivals (sn:Nat) (nth ds dn) (nth last dn) start) (fun T G W=>MachT B c S sc Z gm ds.length last k F FL FK (some ⟨g,0,none⟩) n (some ⟨gl,0,none⟩) nl Ak nk Gi Wa (openOf c sc.arrivals (sn:Nat) (nth ds dn) (nth last dn) start) T G W) l f W∧l.size=28)∧Fa l 0 (f 35= .pointer (some ⟨gm,0,none⟩))∧Fa l 1 (f 36= .pointer (some ⟨gm,0,none⟩))∧Fa l 2 (f 37= .pointer (some ⟨gm,0,none⟩))∧Fa l 3 (f 38= .agg #[.int .i64 c.sets,.int .i64 c.ways,.int .i64 c.doms,.int .i64 c.pad,.int .i64 c.quantum,.slice S.a0 c.slots.length S.n0,.slice S.a1 c.owners.length S.n1,.slice S.a2 c.chans.length S.n2,.slice S.a3 c.tasks.length S.n3])∧Fa l 4 (f 39= .pointer (some ⟨gm,0,none⟩))∧Fa l 5 (f 40= .pointer (some ⟨gm,0,none⟩))∧Fa l 6 (f 41= .pointer (some ⟨gm,9,none⟩))∧Fa l 7 (f 42= .pointer (some ⟨gm,10,none⟩))∧Fa l 8 (f 43= .slice Z.a1 sc.arrivals.length Z.n1)∧Fa l 9 (f 44= .int .i64 (((sn:Nat):Int)))∧Fa l 10 (f 45= .pointer (some ⟨gm,0,none⟩))∧Fa l 11 (f 46= .pointer (some ⟨gm,0,none⟩))∧Fa l 12 (f 47= .pointer (some ⟨gm,12,none⟩))∧Fa l 13 (f 48= .slice (some ⟨g,0,none⟩) ds.length n)∧Fa l 14 (f 49= .int .i64 (((dn:Nat):Int)))∧Fa l 15 (f 50= .pointer (some ⟨g,dn*7,none⟩))∧Fa l 16 (f 51= .agg #[.slice T.a0 (nth ds dn).jobs.length T.n0,.slice T.a1 (nth ds dn).released.length T.n1,.int .i64 (nth ds dn).next,.slice T.a2 (nth ds dn).ins.length T.n2,.slice T.a3 (nth ds dn).taken.length T.n3,.slice T.a4 (nth ds dn).outs.length T.n4,.slice T.a5 (nth ds dn).events.length T.n5])∧Fa l 17 (f 52= .pointer (some ⟨gm,0,none⟩))∧Fa l 18 (f 53= .pointer (some ⟨gm,0,none⟩))∧Fa l 19 (f 54= .pointer (some ⟨gm,13,none⟩))∧Fa l 20 (f 55= .slice (some ⟨gl,0,none⟩) last.length nl)∧Fa l 21 (f 56= .int .i64 (((dn:Nat):Int)))∧Fa l 22 (f 57= .pointer (some ⟨gl,dn,none⟩))∧Fa l 23 (f 58= .int .i64 ((nth last dn)))∧Fa l 24 (f 59= .int .i64 start)) (by kernel_rfl) (by decide) (by kernel_rfl) (by kernel_rfl) (by intro s hs;simp at hs⊢;omega) ?_ ?_ ?_
 ·intro l hz hl
  exact ⟨⟨entS_start T hl (Below.refl _ _).drew,hz⟩,.no (hl 0),.no (hl 1),.no (hl 2),.no (hl 3),.no (hl 4),.no (hl 5),.no (hl 6),.no (hl 7),.no (hl 8),.no (hl 9),.no (hl 10),.no (hl 11),.no (hl 12),.no (hl 13),.no (hl 14),.no (hl 15),.no (hl 16),.no (hl 17),.no (hl 18),.no (hl 19),.no (hl 20),.no (hl 21),.no (hl 22),.no (hl 23),.no (hl 24)⟩
 ·simp only [List.take_succ_cons,List.take_zero]
  refine StepsL.c 1 [] (fun l f W hR hn hb K Q2 hK=>?_) ?_
  ·obtain ⟨hS,h0,h1,h2,h3,h4,h5,h6,h7,h8,h9,h10,h11,h12,h13,h14,h15,h16,h17,h18,h19,h20,h21,h22,h23,h24⟩:=hR
   clear hb
   refine ⟨?_⟩
   simp only [pfs] at hK⊢
   go_simp
   refine hK.out _ _ ⟨⟨hS.1.skip (v:=_),by simpa using hS.2⟩,⟨fun _=>rfl⟩,h1.k,h2.k,h3.k,h4.k,h5.k,h6.k,h7.k,h8.k,h9.k,h10.k,h11.k,h12.k,h13.k,h14.k,h15.k,h16.k,h17.k,h18.k,h19.k,h20.k,h21.k,h22.k,h23.k,h24.k⟩
  refine StepsL.c 2 [0] (fun l f W hR hn hb K Q2 hK=>?_) ?_
  ·obtain ⟨hS,h0,h1,h2,h3,h4,h5,h6,h7,h8,h9,h10,h11,h12,h13,h14,h15,h16,h17,h18,h19,h20,h21,h22,h23,h24⟩:=hR
   have q0:=h0.out (hb 0 (by simp))
   clear hb
   refine ⟨?_⟩
   simp only [pfs] at hK⊢
   (try simp only [q0] at hK)
   go_simp
   refine hK.out _ _ ⟨⟨hS.1.skip (v:=_),by simpa using hS.2⟩,h0.k,⟨fun _=>rfl⟩,h2.k,h3.k,h4.k,h5.k,h6.k,h7.k,h8.k,h9.k,h10.k,h11.k,h12.k,h13.k,h14.k,h15.k,h16.k,h17.k,h18.k,h19.k,h20.k,h21.k,h22.k,h23.k,h24.k⟩
  refine StepsL.c 3 [1] (fun l f W hR hn hb K Q2 hK=>?_) ?_
  ·obtain ⟨hS,h0,h1,h2,h3,h4,h5,h6,h7,h8,h9,h10,h11,h12,h13,h14,h15,h16,h17,h18,h19,h20,h21,h22,h23,h24⟩:=hR
   have q1:=h1.out (hb 1 (by simp))
   clear hb
   refine ⟨?_⟩
   simp only [pfs] at hK⊢
   (try simp only [q1] at hK)
   go_simp
   refine hK.out _ _ ⟨⟨hS.1.skip (v:=_),by simpa using hS.2⟩,h0.k,h1.k,⟨fun _=>rfl⟩,h3.k,h4.k,h5.k,h6.k,h7.k,h8.k,h9.k,h10.k,h11.k,h12.k,h13.k,h14.k,h15.k,h16.k,h17.k,h18.k,h19.k,h20.k,h21.k,h22.k,h23.k,h24.k⟩
  refine StepsL.c 4 [2] (fun l f W hR hn hb K Q2 hK=>?_) ?_
  ·obtain ⟨hS,h0,h1,h2,h3,h4,h5,h6,h7,h8,h9,h10,h11,h12,h13,h14,h15,h16,h17,h18,h19,h20,h21,h22,h23,h24⟩:=hR
   have q2:=h2.out (hb 2 (by simp))
   clear hb
   refine ⟨?_⟩
   simp only [pfs] at hK⊢
   (try simp only [q2] at hK)
   obtain ⟨cX,fX,zX⟩:=blk (KM.out l f W hS.1)
   go_simp
   refine hK.out _ _ ⟨⟨hS.1.skip (v:=_),by simpa using hS.2⟩,h0.k,h1.k,h2.k,⟨fun _=>rfl⟩,h4.k,h5.k,h6.k,h7.k,h8.k,h9.k,h10.k,h11.k,h12.k,h13.k,h14.k,h15.k,h16.k,h17.k,h18.k,h19.k,h20.k,h21.k,h22.k,h23.k,h24.k⟩
  refine StepsL.c 5 [] (fun l f W hR hn hb K Q2 hK=>?_) ?_
  ·obtain ⟨hS,h0,h1,h2,h3,h4,h5,h6,h7,h8,h9,h10,h11,h12,h13,h14,h15,h16,h17,h18,h19,h20,h21,h22,h23,h24⟩:=hR
   clear hb
   refine ⟨?_⟩
   simp only [pfs] at hK⊢
   go_simp
   refine hK.out _ _ ⟨⟨hS.1.skip (v:=_),by simpa using hS.2⟩,h0.k,h1.k,h2.k,h3.k,⟨fun _=>rfl⟩,h5.k,h6.k,h7.k,h8.k,h9.k,h10.k,h11.k,h12.k,h13.k,h14.k,h15.k,h16.k,h17.k,h18.k,h19.k,h20.k,h21.k,h22.k,h23.k,h24.k⟩
  refine StepsL.c 6 [4] (fun l f W hR hn hb K Q2 hK=>?_) ?_
  ·obtain ⟨hS,h0,h1,h2,h3,h4,h5,h6,h7,h8,h9,h10,h11,h12,h13,h14,h15,h16,h17,h18,h19,h20,h21,h22,h23,h24⟩:=hR
   have q4:=h4.out (hb 4 (by simp))
   clear hb
   refine ⟨?_⟩
   simp only [pfs] at hK⊢
   (try simp only [q4] at hK)
   go_simp
   refine hK.out _ _ ⟨⟨hS.1.skip (v:=_),by simpa using hS.2⟩,h0.k,h1.k,h2.k,h3.k,h4.k,⟨fun _=>rfl⟩,h6.k,h7.k,h8.k,h9.k,h10.k,h11.k,h12.k,h13.k,h14.k,h15.k,h16.k,h17.k,h18.k,h19.k,h20.k,h21.k,h22.k,h23.k,h24.k⟩
  refine StepsL.c 7 [5] (fun l f W hR hn hb K Q2 hK=>?_) ?_
  ·obtain ⟨hS,h0,h1,h2,h3,h4,h5,h6,h7,h8,h9,h10,h11,h12,h13,h14,h15,h16,h17,h18,h19,h20,h21,h22,h23,h24⟩:=hR
   have q5:=h5.out (hb 5 (by simp))
   clear hb
   refine ⟨?_⟩
   simp only [pfs] at hK⊢
   (try simp only [q5] at hK)
   go_simp
   refine hK.out _ _ ⟨⟨hS.1.skip (v:=_),by simpa using hS.2⟩,h0.k,h1.k,h2.k,h3.k,h4.k,h5.k,⟨fun _=>rfl⟩,h7.k,h8.k,h9.k,h10.k,h11.k,h12.k,h13.k,h14.k,h15.k,h16.k,h17.k,h18.k,h19.k,h20.k,h21.k,h22.k,h23.k,h24.k⟩
  refine StepsL.c 8 [6] (fun l f W hR hn hb K Q2 hK=>?_) ?_
  ·obtain ⟨hS,h0,h1,h2,h3,h4,h5,h6,h7,h8,h9,h10,h11,h12,h13,h14,h15,h16,h17,h18,h19,h20,h21,h22,h23,h24⟩:=hR
   have q6:=h6.out (hb 6 (by simp))
   clear hb
   refine ⟨?_⟩
   simp only [pfs] at hK⊢
   (try simp only [q6] at hK)
   go_simp
   refine hK.out _ _ ⟨⟨hS.1.skip (v:=_),by simpa using hS.2⟩,h0.k,h1.k,h2.k,h3.k,h4.k,h5.k,h6.k,⟨fun _=>rfl⟩,h8.k,h9.k,h10.k,h11.k,h12.k,h13.k,h14.k,h15.k,h16.k,h17.k,h18.k,h19.k,h20.k,h21.k,h22.k,h23.k,h24.k⟩
  refine StepsL.c 9 [7] (fun l f W hR hn hb K Q2 hK=>?_) ?_
  ·obtain ⟨hS,h0,h1,h2,h3,h4,h5,h6,h7,h8,h9,h10,h11,h12,h13,h14,h15,h16,h17,h18,h19,h20,h21,h22,h23,h24⟩:=hR
   have q7:=h7.out (hb 7 (by simp))
   clear hb
   refine ⟨?_⟩
   simp only [pfs] at hK⊢
   (try simp only [q7] at hK)
   obtain ⟨cX,fX,zX⟩:=blk (KM.out l f W hS.1)
   go_simp
   refine hK.out _ _ ⟨⟨hS.1.skip (v:=_),by simpa using hS.2⟩,h0.k,h1.k,h2.k,h3.k,h4.k,h5.k,h6.k,h7.k,⟨fun _=>rfl⟩,h9.k,h10.k,h11.k,h12.k,h13.k,h14.k,h15.k,h16.k,h17.k,h18.k,h19.k,h20.k,h21.k,h22.k,h23.k,h24.k⟩
  refine StepsL.c 10 [] (fun l f W hR hn hb K Q2 hK=>?_) ?_
  ·obtain ⟨hS,h0,h1,h2,h3,h4,h5,h6,h7,h8,h9,h10,h11,h12,h13,h14,h15,h16,h17,h18,h19,h20,h21,h22,h23,h24⟩:=hR
   clear hb
   refine ⟨?_⟩
   simp only [pfs] at hK⊢
   go_simp
   refine hK.out _ _ ⟨⟨hS.1.skip (v:=_),by simpa using hS.2⟩,h0.k,h1.k,h2.k,h3.k,h4.k,h5.k,h6.k,h7.k,h8.k,⟨fun _=>rfl⟩,h10.k,h11.k,h12.k,h13.k,h14.k,h15.k,h16.k,h17.k,h18.k,h19.k,h20.k,h21.k,h22.k,h23.k,h24.k⟩
  refine StepsL.c 11 [] (fun l f W hR hn hb K Q2 hK=>?_) ?_
  ·obtain ⟨hS,h0,h1,h2,h3,h4,h5,h6,h7,h8,h9,h10,h11,h12,h13,h14,h15,h16,h17,h18,h19,h20,h21,h22,h23,h24⟩:=hR
   clear hb
   refine ⟨?_⟩
   simp only [pfs] at hK⊢
   go_simp
   refine hK.out _ _ ⟨⟨hS.1.skip (v:=_),by simpa using hS.2⟩,h0.k,h1.k,h2.k,h3.k,h4.k,h5.k,h6.k,h7.k,h8.k,h9.k,⟨fun _=>rfl⟩,h11.k,h12.k,h13.k,h14.k,h15.k,h16.k,h17.k,h18.k,h19.k,h20.k,h21.k,h22.k,h23.k,h24.k⟩
  refine StepsL.c 12 [10] (fun l f W hR hn hb K Q2 hK=>?_) ?_
  ·obtain ⟨hS,h0,h1,h2,h3,h4,h5,h6,h7,h8,h9,h10,h11,h12,h13,h14,h15,h16,h17,h18,h19,h20,h21,h22,h23,h24⟩:=hR
   have q10:=h10.out (hb 10 (by simp))
   clear hb
   refine ⟨?_⟩
   simp only [pfs] at hK⊢
   (try simp only [q10] at hK)
   go_simp
   refine hK.out _ _ ⟨⟨hS.1.skip (v:=_),by simpa using hS.2⟩,h0.k,h1.k,h2.k,h3.k,h4.k,h5.k,h6.k,h7.k,h8.k,h9.k,h10.k,⟨fun _=>rfl⟩,h12.k,h13.k,h14.k,h15.k,h16.k,h17.k,h18.k,h19.k,h20.k,h21.k,h22.k,h23.k,h24.k⟩
  refine StepsL.c 13 [11] (fun l f W hR hn hb K Q2 hK=>?_) ?_
  ·obtain ⟨hS,h0,h1,h2,h3,h4,h5,h6,h7,h8,h9,h10,h11,h12,h13,h14,h15,h16,h17,h18,h19,h20,h21,h22,h23,h24⟩:=hR
   have q11:=h11.out (hb 11 (by simp))
   clear hb
   refine ⟨?_⟩
   simp only [pfs] at hK⊢
   (try simp only [q11] at hK)
   go_simp
   refine hK.out _ _ ⟨⟨hS.1.skip (v:=_),by simpa using hS.2⟩,h0.k,h1.k,h2.k,h3.k,h4.k,h5.k,h6.k,h7.k,h8.k,h9.k,h10.k,h11.k,⟨fun _=>rfl⟩,h13.k,h14.k,h15.k,h16.k,h17.k,h18.k,h19.k,h20.k,h21.k,h22.k,h23.k,h24.k⟩
  refine StepsL.c 14 [12] (fun l f W hR hn hb K Q2 hK=>?_) ?_
  ·obtain ⟨hS,h0,h1,h2,h3,h4,h5,h6,h7,h8,h9,h10,h11,h12,h13,h14,h15,h16,h17,h18,h19,h20,h21,h22,h23,h24⟩:=hR
   have q12:=h12.out (hb 12 (by simp))
   clear hb
   refine ⟨?_⟩
   simp only [pfs] at hK⊢
   (try simp only [q12] at hK)
   obtain ⟨cX,fX,zX⟩:=blk (KM.out l f W hS.1)
   go_simp
   refine hK.out _ _ ⟨⟨hS.1.skip (v:=_),by simpa using hS.2⟩,h0.k,h1.k,h2.k,h3.k,h4.k,h5.k,h6.k,h7.k,h8.k,h9.k,h10.k,h11.k,h12.k,⟨fun _=>rfl⟩,h14.k,h15.k,h16.k,h17.k,h18.k,h19.k,h20.k,h21.k,h22.k,h23.k,h24.k⟩
  refine StepsL.c 15 [] (fun l f W hR hn hb K Q2 hK=>?_) ?_
  ·obtain ⟨hS,h0,h1,h2,h3,h4,h5,h6,h7,h8,h9,h10,h11,h12,h13,h14,h15,h16,h17,h18,h19,h20,h21,h22,h23,h24⟩:=hR
   clear hb
   refine ⟨?_⟩
   simp only [pfs] at hK⊢
   go_simp
   refine hK.out _ _ ⟨⟨hS.1.skip (v:=_),by simpa using hS.2⟩,h0.k,h1.k,h2.k,h3.k,h4.k,h5.k,h6.k,h7.k,h8.k,h9.k,h10.k,h11.k,h12.k,h13.k,⟨fun _=>rfl⟩,h15.k,h16.k,h17.k,h18.k,h19.k,h20.k,h21.k,h22.k,h23.k,h24.k⟩
  refine StepsL.c 16 [13,14] (fun l f W hR hn hb K Q2 hK=>?_) ?_
  ·obtain ⟨hS,h0,h1,h2,h3,h4,h5,h6,h7,h8,h9,h10,h11,h12,h13,h14,h15,h16,h17,h18,h19,h20,h21,h22,h23,h24⟩:=hR
   have q13:=h13.out (hb 13 (by simp))
   have q14:=h14.out (hb 14 (by simp))
   clear hb
   refine ⟨?_⟩
   simp only [pfs] at hK⊢
   (try simp only [q13,q14] at hK)
   go_simp
   refine hK.out _ _ ⟨⟨hS.1.skip (v:=_),by simpa using hS.2⟩,h0.k,h1.k,h2.k,h3.k,h4.k,h5.k,h6.k,h7.k,h8.k,h9.k,h10.k,h11.k,h12.k,h13.k,h14.k,⟨fun _=>rfl⟩,h16.k,h17.k,h18.k,h19.k,h20.k,h21.k,h22.k,h23.k,h24.k⟩
  refine StepsL.c 17 [15] (fun l f W hR hn hb K Q2 hK=>?_) ?_
  ·obtain ⟨hS,h0,h1,h2,h3,h4,h5,h6,h7,h8,h9,h10,h11,h12,h13,h14,h15,h16,h17,h18,h19,h20,h21,h22,h23,h24⟩:=hR
   have q15:=h15.out (hb 15 (by simp))
   have hS9:=hS.1.ne fun h=>hn (hS.1.o h).1
   clear hb
   refine ⟨?_⟩
   simp only [pfs] at hK⊢
   (try simp only [q15] at hK)
   have kd0:=KD.out W hS9 0 _ rfl
   have kd1:=KD.out W hS9 1 _ rfl
   have kd2:=KD.out W hS9 2 _ rfl
   have kd3:=KD.out W hS9 3 _ rfl
   have kd4:=KD.out W hS9 4 _ rfl
   have kd5:=KD.out W hS9 5 _ rfl
   have kd6:=KD.out W hS9 6 _ rfl
   simp only [Nat.add_zero] at kd0
   go_simp
   refine hK.out _ _ ⟨⟨hS.1.skip (v:=_),by simpa using hS.2⟩,h0.k,h1.k,h2.k,h3.k,h4.k,h5.k,h6.k,h7.k,h8.k,h9.k,h10.k,h11.k,h12.k,h13.k,h14.k,h15.k,⟨fun _=>rfl⟩,h17.k,h18.k,h19.k,h20.k,h21.k,h22.k,h23.k,h24.k⟩
  refine StepsL.c 18 [] (fun l f W hR hn hb K Q2 hK=>?_) ?_
  ·obtain ⟨hS,h0,h1,h2,h3,h4,h5,h6,h7,h8,h9,h10,h11,h12,h13,h14,h15,h16,h17,h18,h19,h20,h21,h22,h23,h24⟩:=hR
   clear hb
   refine ⟨?_⟩
   simp only [pfs] at hK⊢
   go_simp
   refine hK.out _ _ ⟨⟨hS.1.skip (v:=_),by simpa using hS.2⟩,h0.k,h1.k,h2.k,h3.k,h4.k,h5.k,h6.k,h7.k,h8.k,h9.k,h10.k,h11.k,h12.k,h13.k,h14.k,h15.k,h16.k,⟨fun _=>rfl⟩,h18.k,h19.k,h20.k,h21.k,h22.k,h23.k,h24.k⟩
  refine StepsL.c 19 [17] (fun l f W hR hn hb K Q2 hK=>?_) ?_
  ·obtain ⟨hS,h0,h1,h2,h3,h4,h5,h6,h7,h8,h9,h10,h11,h12,h13,h14,h15,h16,h17,h18,h19,h20,h21,h22,h23,h24⟩:=hR
   have q17:=h17.out (hb 17 (by simp))
   clear hb
   refine ⟨?_⟩
   simp only [pfs] at hK⊢
   (try simp only [q17] at hK)
   go_simp
   refine hK.out _ _ ⟨⟨hS.1.skip (v:=_),by simpa using hS.2⟩,h0.k,h1.k,h2.k,h3.k,h4.k,h5.k,h6.k,h7.k,h8.k,h9.k,h10.k,h11.k,h12.k,h13.k,h14.k,h15.k,h16.k,h17.k,⟨fun _=>rfl⟩,h19.k,h20.k,h21.k,h22.k,h23.k,h24.k⟩
  refine StepsL.c 20 [18] (fun l f W hR hn hb K Q2 hK=>?_) ?_
  ·obtain ⟨hS,h0,h1,h2,h3,h4,h5,h6,h7,h8,h9,h10,h11,h12,h13,h14,h15,h16,h17,h18,h19,h20,h21,h22,h23,h24⟩:=hR
   have q18:=h18.out (hb 18 (by simp))
   clear hb
   refine ⟨?_⟩
   simp only [pfs] at hK⊢
   (try simp only [q18] at hK)
   go_simp
   refine hK.out _ _ ⟨⟨hS.1.skip (v:=_),by simpa using hS.2⟩,h0.k,h1.k,h2.k,h3.k,h4.k,h5.k,h6.k,h7.k,h8.k,h9.k,h10.k,h11.k,h12.k,h13.k,h14.k,h15.k,h16.k,h17.k,h18.k,⟨fun _=>rfl⟩,h20.k,h21.k,h22.k,h23.k,h24.k⟩
  refine StepsL.c 21 [19] (fun l f W hR hn hb K Q2 hK=>?_) ?_
  ·obtain ⟨hS,h0,h1,h2,h3,h4,h5,h6,h7,h8,h9,h10,h11,h12,h13,h14,h15,h16,h17,h18,h19,h20,h21,h22,h23,h24⟩:=hR
   have q19:=h19.out (hb 19 (by simp))
   clear hb
   refine ⟨?_⟩
   simp only [pfs] at hK⊢
   (try simp only [q19] at hK)
   obtain ⟨cX,fX,zX⟩:=blk (KM.out l f W hS.1)
   go_simp
   refine hK.out _ _ ⟨⟨hS.1.skip (v:=_),by simpa using hS.2⟩,h0.k,h1.k,h2.k,h3.k,h4.k,h5.k,h6.k,h7.k,h8.k,h9.k,h10.k,h11.k,h12.k,h13.k,h14.k,h15.k,h16.k,h17.k,h18.k,h19.k,⟨fun _=>rfl⟩,h21.k,h22.k,h23.k,h24.k⟩
  refine StepsL.c 22 [] (fun l f W hR hn hb K Q2 hK=>?_) ?_
  ·obtain ⟨hS,h0,h1,h2,h3,h4,h5,h6,h7,h8,h9,h10,h11,h12,h13,h14,h15,h16,h17,h18,h19,h20,h21,h22,h23,h24⟩:=hR
   clear hb
   refine ⟨?_⟩
   simp only [pfs] at hK⊢
   go_simp
   refine hK.out _ _ ⟨⟨hS.1.skip (v:=_),by simpa using hS.2⟩,h0.k,h1.k,h2.k,h3.k,h4.k,h5.k,h6.k,h7.k,h8.k,h9.k,h10.k,h11.k,h12.k,h13.k,h14.k,h15.k,h16.k,h17.k,h18.k,h19.k,h20.k,⟨fun _=>rfl⟩,h22.k,h23.k,h24.k⟩
  refine StepsL.c 23 [20,21] (fun l f W hR hn hb K Q2 hK=>?_) ?_
  ·obtain ⟨hS,h0,h1,h2,h3,h4,h5,h6,h7,h8,h9,h10,h11,h12,h13,h14,h15,h16,h17,h18,h19,h20,h21,h22,h23,h24⟩:=hR
   have q20:=h20.out (hb 20 (by simp))
   have q21:=h21.out (hb 21 (by simp))
   clear hb
   refine ⟨?_⟩
   simp only [pfs] at hK⊢
   (try simp only [q20,q21] at hK)
   go_simp
   refine hK.out _ _ ⟨⟨hS.1.skip (v:=_),by simpa using hS.2⟩,h0.k,h1.k,h2.k,h3.k,h4.k,h5.k,h6.k,h7.k,h8.k,h9.k,h10.k,h11.k,h12.k,h13.k,h14.k,h15.k,h16.k,h17.k,h18.k,h19.k,h20.k,h21.k,⟨fun _=>rfl⟩,h23.k,h24.k⟩
  refine StepsL.c 24 [22] (fun l f W hR hn hb K Q2 hK=>?_) ?_
  ·obtain ⟨hS,h0,h1,h2,h3,h4,h5,h6,h7,h8,h9,h10,h11,h12,h13,h14,h15,h16,h17,h18,h19,h20,h21,h22,h23,h24⟩:=hR
   have q22:=h22.out (hb 22 (by simp))
   have hS9:=hS.1.ne fun h=>hn (hS.1.o h).2
   clear hb
   refine ⟨?_⟩
   simp only [pfs] at hK⊢
   (try simp only [q22] at hK)
   have kl0:=KL.out W hS9
   go_simp
   refine hK.out _ _ ⟨⟨hS.1.skip (v:=_),by simpa using hS.2⟩,h0.k,h1.k,h2.k,h3.k,h4.k,h5.k,h6.k,h7.k,h8.k,h9.k,h10.k,h11.k,h12.k,h13.k,h14.k,h15.k,h16.k,h17.k,h18.k,h19.k,h20.k,h21.k,h22.k,⟨fun _=>rfl⟩,h24.k⟩
  refine StepsL.c 25 [] (fun l f W hR hn hb K Q2 hK=>?_) ?_
  ·obtain ⟨hS,h0,h1,h2,h3,h4,h5,h6,h7,h8,h9,h10,h11,h12,h13,h14,h15,h16,h17,h18,h19,h20,h21,h22,h23,h24⟩:=hR
   clear hb
   refine ⟨?_⟩
   simp only [pfs] at hK⊢
   go_simp
   refine hK.out _ _ ⟨⟨hS.1.skip (v:=_),by simpa using hS.2⟩,h0.k,h1.k,h2.k,h3.k,h4.k,h5.k,h6.k,h7.k,h8.k,h9.k,h10.k,h11.k,h12.k,h13.k,h14.k,h15.k,h16.k,h17.k,h18.k,h19.k,h20.k,h21.k,h22.k,h23.k,⟨fun _=>rfl⟩⟩
  refine StepsL.c 26 [3,8,9,16,23,24] (fun l f W hR hn hb K Q2 hK=>?_) ?_
  ·obtain ⟨hS,h0,h1,h2,h3,h4,h5,h6,h7,h8,h9,h10,h11,h12,h13,h14,h15,h16,h17,h18,h19,h20,h21,h22,h23,h24⟩:=hR
   have q3:=h3.out (hb 3 (by simp))
   have q8:=h8.out (hb 8 (by simp))
   have q9:=h9.out (hb 9 (by simp))
   have q16:=h16.out (hb 16 (by simp))
   have q23:=h23.out (hb 23 (by simp))
   have q24:=h24.out (hb 24 (by simp))
   have L16:=hb 16 (by simp)
   have L23:=hb 23 (by simp)
   have hS9:=hS.1.ne hn
   have HL:=HE.out W hS9
   clear hb
   refine ⟨?_⟩
   simp only [pfs] at hK⊢
   (try simp only [q3,q8,q9,q16,q23,q24] at hK)
   go_simp
   go_at_call 50
   refine HL.mono ?_
   clear HL
   rintro e w9 ⟨T9,G9,rfl,hE9,hT9⟩
   try dsimp only
   try simp only [Act.put,List.setIfInBounds_toArray,List.set_cons_zero,List.set_cons_succ]
   refine hK.out _ _ ⟨⟨hS.1.call (by omega) hn ⟨L16,L23⟩ hT9 hE9 h0G.out,by simpa using hS.2⟩,h0.k,h1.k,h2.k,h3.k,h4.k,h5.k,h6.k,h7.k,h8.k,h9.k,h10.k,h11.k,h12.k,h13.k,h14.k,h15.k,h16.k,h17.k,h18.k,h19.k,h20.k,h21.k,h22.k,h23.k,h24.k⟩
  refine StepsL.c 27 [] (fun l f W hR hn hb K Q2 hK=>?_) ?_
  ·obtain ⟨hS,h0,h1,h2,h3,h4,h5,h6,h7,h8,h9,h10,h11,h12,h13,h14,h15,h16,h17,h18,h19,h20,h21,h22,h23,h24⟩:=hR
   clear hb
   refine ⟨?_⟩
   simp only [pfs] at hK⊢
   go_simp
   refine hK.out _ _ ⟨⟨hS.1.box (fun _ _ _ _ h hb=>h.ext hb) (fun _ _ _ h=>h.dom.lt) (fun _ _ _ h=>h.sz),by simpa using hS.2⟩,h0.k,h1.k,h2.k,h3.k,h4.k,h5.k,h6.k,h7.k,h8.k,h9.k,h10.k,h11.k,h12.k,h13.k,h14.k,h15.k,h16.k,h17.k,h18.k,h19.k,h20.k,h21.k,h22.k,h23.k,h24.k⟩
  exact StepsL.nil
 ·intro l f W hR hall
  obtain ⟨hS,h0,h1,h2,h3,h4,h5,h6,h7,h8,h9,h10,h11,h12,h13,h14,h15,h16,h17,h18,h19,h20,h21,h22,h23,h24⟩:=hR
  have q0:=h0.out (hall 0 (by decide))
  have q1:=h1.out (hall 1 (by decide))
  have q2:=h2.out (hall 2 (by decide))
  have q3:=h3.out (hall 3 (by decide))
  have q4:=h4.out (hall 4 (by decide))
  have q5:=h5.out (hall 5 (by decide))
  have q6:=h6.out (hall 6 (by decide))
  have q7:=h7.out (hall 7 (by decide))
  have q8:=h8.out (hall 8 (by decide))
  have q9:=h9.out (hall 9 (by decide))
  have q10:=h10.out (hall 10 (by decide))
  have q11:=h11.out (hall 11 (by decide))
  have q12:=h12.out (hall 12 (by decide))
  have q13:=h13.out (hall 13 (by decide))
  have q14:=h14.out (hall 14 (by decide))
  have q15:=h15.out (hall 15 (by decide))
  have q16:=h16.out (hall 16 (by decide))
  have q17:=h17.out (hall 17 (by decide))
  have q18:=h18.out (hall 18 (by decide))
  have q19:=h19.out (hall 19 (by decide))
  have q20:=h20.out (hall 20 (by decide))
  have q21:=h21.out (hall 21 (by decide))
  have q22:=h22.out (hall 22 (by decide))
  have q23:=h23.out (hall 23 (by decide))
  have q24:=h24.out (hall 24 (by decide))
  clear h0 h1 h2 h3 h4 h5 h6 h7 h8 h9 h10 h11 h12 h13 h14 h15 h16 h17 h18 h19 h20 h21 h22 h23 h24
  simp only [List.drop_succ_cons,List.drop_zero]
  obtain ⟨TT,GG,hG9⟩:=hS.1
  obtain ⟨p60,hP⟩:=hG9.en (hall 25 (by decide))
  obtain ⟨gb,p8,hb0,hb1,hb2,hb3⟩:=hG9.bx (hall 26 (by decide))
  replace hb2:=zH (hb2 (hall 25 (by decide)))
  simp only [pfs]
  simp only [p8,p60]
  replace hP:=zH hP
  clear hG9 q0 q1 q2 q3 q4 q5 q6 q7 q8 q9 q10 q11 q12 q13 q14 q15 q16 q17 q18 q19 q20 q21 q22 q23 q24 p8 p60 hall hS
  obtain ⟨cb,fb,zb⟩:=blk hb3
  go_wp2_with fail
  refine hQ.out _ _ _ _ _ _ _ _ _ _ _ _ _ _ _ _ _ _ _ _ _ _ _ _ _ gb TT GG _ ?_ (dom_set hb3) hb0 (by simpa using hb1) hb2.out
  exact hP.out.far (fun b hb=>dom_far hb) (dom_below (Below.refl _ _) (Nat.zero_le _)) hb0 hb2.out hMl.out hgm.out
end Go.Proofs.YtinlmkhlgclbfabDoor
