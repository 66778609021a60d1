/- SlotT IdxChan -/
import Derived.Test.YtinlmkhlgclbfabDoorAs16
import Derived.Test.YtinlmkhlgclbfabDoorAs27
namespace Go.Proofs.YtinlmkhlgclbfabDoor
open Go.RowKit
section
set_option maxRecDepth 100000
set_option maxHeartbeats 4000000
theorem cell_same {W:World}{b i:Nat}{v:Value}(h:W.cell? ⟨b,i,none⟩=some v):W.setCell ⟨b,i,none⟩ v=W:=by
 unfold World.cell? at h
 unfold World.setCell
 dsimp only at h⊢
 split at h
 ·rename_i c t f hb
  simp only [Option.isSome_none,Bool.false_eq_true,if_false] at h
  obtain ⟨hi,hv⟩:=Array.getElem?_eq_some_iff.mp h
  obtain ⟨hj,hw⟩:=Array.getElem?_eq_some_iff.mp hb
  have e1:c.setIfInBounds i v=c:=by
   apply Array.ext
   ·simp
   ·intro j h1 h2
    rw [Array.getElem_setIfInBounds]
    split
    ·rename_i e;subst e;exact hv.symm
    ·rfl
  have e2:(W.heap.modify b fun x=>match x with
    | .cells c elem frozen=> .cells (if (none:Option Nat).isSome=true then c else c.setIfInBounds i v) elem frozen
    |o=>o)=W.heap:=by
   apply Array.ext
   ·simp
   ·intro j h1 h2
    rw [Array.getElem_modify]
    split
    ·rename_i e;subst e;rw [hw];simp [e1]
    ·rfl
  cases W
  simp only at e2⊢
  congr 1
 ·cases h
structure MEff (M:Nat→Prop) (w w':World):Prop where
 below:Below 0 w w'
 keep:∀b,b < w.heap.size→¬ M b→w'.heap[b]?=w.heap[b]?
theorem MEff.refl (M:Nat→Prop)(w:World):MEff M w w:=⟨Below.refl _ _,fun _ _ _=>rfl⟩
theorem MEff.trans {M M':Nat→Prop}{w w' w'':World}(h:MEff M w w')(h':MEff M' w' w'')(hM:∀b,M' b→M b∨w.heap.size≤b):MEff M w w'':=
 ⟨h.below.trans h'.below,fun b hb hn=>(h'.keep b (Nat.lt_of_lt_of_le hb h.below.size) fun e=>by
  rcases hM b e with e|e
  ·exact hn e
  ·omega).trans (h.keep b hb hn)⟩
theorem MEff.ofBelow {M:Nat→Prop}{w w':World}(h:Below w.heap.size w w'):MEff M w w':=⟨h.mono (Nat.zero_le _),fun b hb _=>h.block b hb⟩
theorem MEff.low {M:Nat→Prop}{B:Nat}{w w':World}(h:MEff M w w')(hB:B≤w.heap.size)(hM:∀b,M b→B≤b):Below B w w':=
 ⟨h.below.os,h.below.tape,h.below.output,h.below.size,fun b hb=>h.keep b (by omega) fun e=>by have:=hM b e;omega⟩
theorem MEff.far {M:Nat→Prop}{w w' w'':World}{g:Nat}(h:MEff M w w')(hb:Below 0 w' w'')(hk:∀b,b≠g→w''.heap[b]?=w'.heap[b]?)(hg:M g∨w.heap.size≤g):MEff M w w'':=
 ⟨h.below.trans hb,fun b hb hn=>(hk b fun e=>by
  subst e
  rcases hg with e|e
  ·exact hn e
  ·omega).trans (h.keep b hb hn)⟩
theorem cell_of_heap {W W0:World}{g o:Nat}(h:W.heap[g]?=W0.heap[g]?):W.cell? ⟨g,o,none⟩=W0.cell? ⟨g,o,none⟩:=by simp only [World.cell?,h]
theorem frozen_of_heap {W W0:World}{g o:Nat}(h:W.heap[g]?=W0.heap[g]?):W.frozen? ⟨g,o,none⟩=W0.frozen? ⟨g,o,none⟩:=by simp only [World.frozen?,h]
def MOwn (gm:Nat) (F FL FK:Nat→Prop) (b:Nat):Prop:=b=gm∨F b∨FL b∨FK b
structure MachT (B:Nat) (c:TCfg) (S:TCfgS) (sc:TScr) (Z:TScrS) (gm:Nat) (m:Nat) (last:List Int) (k:List (List TWay)) (F FL FK:Nat→Prop) (A:Option Addr) (n:Nat) (Al:Option Addr) (nl:Nat) (Ak:Option Addr) (nk:Nat) (Gi:Nat→Prop) (W0:World) (d:TDom) (T:TDomS) (G:Nat→Nat→Prop) (W:World):Prop where
 blk:W.heap[gm]?=some (.cells #[.int .i64 c.sets,.int .i64 c.ways,.int .i64 c.doms,.int .i64 c.pad,.int .i64 c.quantum,.slice S.a0 c.slots.length S.n0,.slice S.a1 c.owners.length S.n1,.slice S.a2 c.chans.length S.n2,.slice S.a3 c.tasks.length S.n3,.slice Z.a0 sc.actions.length Z.n0,.slice Z.a1 sc.arrivals.length Z.n1,.int .i64 sc.rounds,.slice A m n,.slice Al last.length nl,.slice Ak k.length nk] 68)
 cfg:TCfg.At (Low B) W c S
 scr:TScr.At (Low B) W sc Z
 oth:∀b,F b→¬ Gi b→W.heap[b]?=W0.heap[b]?
 lst:OZl oInt 3 FL W (.slice Al last.length nl) last
 cch:OCache FK W (.slice Ak k.length nk) k
 dom:DomO G W d T
 gr:∀j b,G j b→Gi b∨W0.heap.size≤b
 gx:∀j b,G j b→B≤b∧b≠gm∧¬ FL b∧¬ FK b
 lo:B≤gm
 sz:W0.heap.size≤W.heap.size
 fp:∀b,F b∨FL b∨FK b→B≤b∧b < W.heap.size∧b≠gm
 dd:∀b,(F b→¬ FL b∧¬ FK b)∧(FL b→¬ FK b)
 gi:∀b,Gi b→F b
 eff:MEff (MOwn gm F FL FK) W0 W
section
variable {B : Nat} {c : TCfg} {S : TCfgS} {sc : TScr} {Z : TScrS} {gm m : Nat} {ds : List TDom} {last : List Int} {k : List (List TWay)} {F FL FK : Nat → Prop} {A : Option Addr} {n : Nat} {Al : Option Addr} {nl : Nat} {Ak : Option Addr} {nk : Nat} {Gi : Nat → Prop} {W0 W W' : World} {d : TDom} {T : TDomS} {G : Nat → Nat → Prop}
theorem MachT.start (h:MachW B c S sc Z gm ds last k F FL FK A n Al nl Ak nk W0)(hO:DomO G W0 d T)(hG:∀j b,G j b→Gi b)(hGi:∀b,Gi b→F b):MachT B c S sc Z gm ds.length last k F FL FK A n Al nl Ak nk Gi W0 d T G W0:=
 ⟨h.blk,h.cfg,h.scr,fun _ _ _=>rfl,h.lst,h.cch,hO,fun j b hb=> .inl (hG j b hb),fun j b hb=>⟨(h.fp b (.inl (hGi b (hG j b hb)))).1,(h.fp b (.inl (hGi b (hG j b hb)))).2.2,(h.dd b).1 (hGi b (hG j b hb))⟩,h.lo,Nat.le_refl _,h.fp,h.dd,hGi,MEff.refl _ _⟩
theorem MachT.turn {d':TDom}{T':TDomS}{G':Nat→Nat→Prop}{B':Nat}(h:MachT B c S sc Z gm m last k F FL FK A n Al nl Ak nk Gi W0 d T G W)(hGi:∀b,F b→b < W0.heap.size)(hO:DomO G' W' d' T')(hE:DEff B' G G' W W'):MachT B c S sc Z gm m last k F FL FK A n Al nl Ak nk Gi W0 d' T' G' W':=by
 have hz:=hE.below.size
 have hg:=(Go.Proofs.YtinlmkhlgclbfabDoor.blk h.blk).2.2
 have hlo:=h.lo
 have hsz:=h.sz
 have kp:∀b,b < W.heap.size→(∀i,¬ G i b)→W'.heap[b]?=W.heap[b]?:=hE.keep
 have kB:∀b,b < B→W'.heap[b]?=W.heap[b]?:=fun b hb=>kp b (by omega) fun i hi=>by have:=(h.gx i b hi).1;omega
 refine ⟨(kp gm hg fun i hi=>(h.gx i gm hi).2.1 rfl).trans h.blk,h.cfg.keep fun b hb=>kB b hb,h.scr.keep fun b hb=>kB b hb,fun b hb hn=>(kp b (h.fp b (.inl hb)).2.1 fun i hi=>?_).trans (h.oth b hb hn),OZl.keep h.lst fun b hb=>kp b (h.fp b (.inr (.inl hb))).2.1 fun i hi=>(h.gx i b hi).2.2.1 hb,
  OSl.keep h.cch fun b hb=>kp b (h.fp b (.inr (.inr hb))).2.1 fun i hi=>(h.gx i b hi).2.2.2 hb,hO,fun j b hb=>?_,fun j b hb=>?_,hlo,by omega,fun b hb=>⟨(h.fp b hb).1,by have:=(h.fp b hb).2.1;omega,(h.fp b hb).2.2⟩,h.dd,h.gi,h.eff.trans (M':=fun b=>∃i,G i b) ⟨hE.below.mono (Nat.zero_le _),fun b hb hn=>kp b hb fun i hi=>hn ⟨i,hi⟩⟩ fun b ⟨i,hi⟩=>(h.gr i b hi).imp (fun e=> .inr (.inl (h.gi b e))) id⟩
 ·rcases h.gr i b hi with h1|h1
  ·exact hn h1
  ·have:=hGi b hb;omega
 ·rcases hE.grow j b hb with h1|h1
  ·exact h.gr j b h1
  ·exact .inr (by omega)
 ·rcases hE.grow j b hb with h1|h1
  ·exact h.gx j b h1
  ·exact ⟨by omega,by omega,fun h2=>by have:=(h.fp b (.inr (.inl h2))).2.1;omega,fun h2=>by have:=(h.fp b (.inr (.inr h2))).2.1;omega⟩
theorem MachT.raw {d':TDom}{T':TDomS}{G':Nat→Nat→Prop}{B':Nat}{k':List (List TWay)}(h:MachT B c S sc Z gm m last k F FL FK A n Al nl Ak nk Gi W0 d T G W)(hGi:∀b,F b→b < W0.heap.size)(hO:DomO G' W' d' T')(hK:OCache FK W' (.slice Ak k'.length nk) k')(hl:k'.length=k.length)(hE:WEff B' FK G G' W W'):MachT B c S sc Z gm m last k' F FL FK A n Al nl Ak nk Gi W0 d' T' G' W':=by
 have hz:=hE.below.size
 have hg:=(Go.Proofs.YtinlmkhlgclbfabDoor.blk h.blk).2.2
 have hlo:=h.lo
 have hsz:=h.sz
 have kp:∀b,b < W.heap.size→(∀i,¬ G i b)→¬ FK b→W'.heap[b]?=W.heap[b]?:=hE.keep
 have kB:∀b,b < B→W'.heap[b]?=W.heap[b]?:=fun b hb=>kp b (by omega) (fun i hi=>by have:=(h.gx i b hi).1;omega) fun hk=>by have:=(h.fp b (.inr (.inr hk))).1;omega
 refine ⟨?_,h.cfg.keep fun b hb=>kB b hb,h.scr.keep fun b hb=>kB b hb,fun b hb hn=>(kp b (h.fp b (.inl hb)).2.1 (fun i hi=>?_) ((h.dd b).1 hb).2).trans (h.oth b hb hn),OZl.keep h.lst fun b hb=>kp b (h.fp b (.inr (.inl hb))).2.1 (fun i hi=>(h.gx i b hi).2.2.1 hb) ((h.dd b).2 hb),
  hK,hO,fun j b hb=>?_,fun j b hb=>?_,hlo,by omega,fun b hb=>⟨(h.fp b hb).1,by have:=(h.fp b hb).2.1;omega,(h.fp b hb).2.2⟩,h.dd,h.gi,h.eff.trans (M':=fun b=>(∃i,G i b)∨FK b) ⟨hE.below.mono (Nat.zero_le _),fun b hb hn=>kp b hb (fun i hi=>hn (.inl ⟨i,hi⟩)) fun hk=>hn (.inr hk)⟩ fun b hb=>by
  rcases hb with ⟨i,hi⟩|hb
  ·exact (h.gr i b hi).imp (fun e=> .inr (.inl (h.gi b e))) id
  ·exact .inl (.inr (.inr (.inr hb)))⟩
 ·rw [hl]
  exact (kp gm hg (fun i hi=>(h.gx i gm hi).2.1 rfl) fun hk=>(h.fp gm (.inr (.inr hk))).2.2 rfl).trans h.blk
 ·rcases h.gr i b hi with h1|h1
  ·exact hn h1
  ·have:=hGi b hb;omega
 ·rcases hE.grow j b hb with h1|h1
  ·exact h.gr j b h1
  ·exact .inr (by omega)
 ·rcases hE.grow j b hb with h1|h1
  ·exact h.gx j b h1
  ·exact ⟨by omega,by omega,fun h2=>by have:=(h.fp b (.inr (.inl h2))).2.1;omega,fun h2=>by have:=(h.fp b (.inr (.inr h2))).2.1;omega⟩
theorem MachT.ext (h:MachT B c S sc Z gm m last k F FL FK A n Al nl Ak nk Gi W0 d T G W)(hb:Below W.heap.size W W'):MachT B c S sc Z gm m last k F FL FK A n Al nl Ak nk Gi W0 d T G W':=by
 have hg:=(Go.Proofs.YtinlmkhlgclbfabDoor.blk h.blk).2.2
 have hlo:=h.lo
 have kp:∀b,b < W.heap.size→W'.heap[b]?=W.heap[b]?:=fun b hx=>hb.block b hx
 have fp:∀b,F b∨FL b∨FK b→b < W.heap.size:=fun b hx=>(h.fp b hx).2.1
 exact ⟨(kp gm hg).trans h.blk,h.cfg.keep fun b hx=>kp b (by have hx':b < B:=hx;omega),h.scr.keep fun b hx=>kp b (by have hx':b < B:=hx;omega),fun b hx hn=>(kp b (fp b (.inl hx))).trans (h.oth b hx hn),OZl.keep h.lst fun b hx=>kp b (fp b (.inr (.inl hx))),
  OSl.keep h.cch fun b hx=>kp b (fp b (.inr (.inr hx))),h.dom.keep (fun i b hx=>kp b (h.dom.lt i b hx)) hb.size,h.gr,h.gx,hlo,Nat.le_trans h.sz hb.size,fun b hx=>⟨(h.fp b hx).1,Nat.lt_of_lt_of_le (fp b hx) hb.size,(h.fp b hx).2.2⟩,h.dd,h.gi,h.eff.trans (M':=fun _=>False) (MEff.ofBelow hb) fun _ e=>e.elim⟩
theorem MachT.setLast (h:MachT B c S sc Z gm m last k F FL FK A n Al nl Ak nk Gi W0 d T G W){i:Nat}(hi:i < last.length):∃g,Al=some ⟨g,0,none⟩∧g < W.heap.size∧g≠gm∧B≤g∧FL g∧(∀o,W.frozen? ⟨g,o,none⟩=false)∧W.cell? ⟨g,i,none⟩=some (.int .i64 (nth last i))∧
  ∀x,MachT B c S sc Z gm m (last.set i x) k F FL FK A n Al nl Ak nk Gi W0 d T G (W.setCell ⟨g,i,none⟩ (.int .i64 x)):=by
 obtain ⟨g,e,hg,hl,hc,hf,hset⟩:=ozl_flat_at (k:=1) (f:=fun n=>[.int .i64 n]) (hf:=fun _=>rfl) h.lst hi
 have hfp:=h.fp g (.inr (.inl hg))
 refine ⟨g,e,hl,hfp.2.2,hfp.1,hg,hf,by simpa using hc 0 _ rfl,fun x=>?_⟩
 have h2:=hset 0 (.int .i64 x) x Nat.one_pos rfl
 simp only [Nat.mul_one,Nat.add_zero] at h2
 have kp:∀b,b≠g→(W.setCell ⟨g,i,none⟩ (.int .i64 x)).heap[b]?=W.heap[b]?:=fun b hb=>Below.heap_setCell _ _ _ _ hb
 have hlo:=h.lo
 have hBg:B≤g:=hfp.1
 have hne:∀b,b < B→b≠g:=fun b hb=>by omega
 refine ⟨?_,h.cfg.keep fun b hb=>kp b (hne b hb),h.scr.keep fun b hb=>kp b (hne b hb),fun b hb hn=>(kp b fun e=>((h.dd b).1 hb).1 (e ▸ hg)).trans (h.oth b hb hn),by rw [List.length_set];exact h2,OSl.keep h.cch fun b hb=>kp b fun e=>(h.dd b).2 (e ▸ hg) hb,
  h.dom.keep (fun j b hb=>kp b fun e=>(h.gx j b hb).2.2.1 (e ▸ hg)) (by simp),h.gr,h.gx,hlo,by simpa using h.sz,fun b hb=>by simpa using h.fp b hb,h.dd,h.gi,h.eff.far (Below.setCell (Below.refl _ _) (Nat.zero_le _) _) kp (.inl (.inr (.inr (.inl hg))))⟩
 rw [List.length_set]
 exact (kp gm (Ne.symm hfp.2.2)).trans h.blk
theorem MachT.far {gb:Nat}(h:MachT B c S sc Z gm m last k F FL FK A n Al nl Ak nk Gi W0 d T G W)(hk:∀b,b≠gb→W'.heap[b]?=W.heap[b]?)(hb0:Below 0 W W')(h0:W0.heap.size≤gb)(hG:∀j,¬ G j gb)(hl:∀b,F b∨FL b∨FK b→b < W0.heap.size)(hgm:gm < W0.heap.size):
  MachT B c S sc Z gm m last k F FL FK A n Al nl Ak nk Gi W0 d T G W':=by
 have hlo:=h.lo
 have hz:=hb0.size
 have kf:∀b,F b∨FL b∨FK b→W'.heap[b]?=W.heap[b]?:=fun b hb=>hk b (by have:=hl b hb;omega)
 have kB:∀b,b < B→W'.heap[b]?=W.heap[b]?:=fun b hb=>hk b (by omega)
 exact ⟨(hk gm (by omega)).trans h.blk,h.cfg.keep fun b hx=>kB b hx,h.scr.keep fun b hx=>kB b hx,fun b hx hn=>(kf b (.inl hx)).trans (h.oth b hx hn),OZl.keep h.lst fun b hx=>kf b (.inr (.inl hx)),
  OSl.keep h.cch fun b hx=>kf b (.inr (.inr hx)),h.dom.keep (fun i b hx=>hk b fun e=>hG i (e ▸ hx)) hz,h.gr,h.gx,hlo,Nat.le_trans h.sz hz,fun b hx=>⟨(h.fp b hx).1,Nat.lt_of_lt_of_le (h.fp b hx).2.1 hz,(h.fp b hx).2.2⟩,h.dd,h.gi,h.eff.far hb0 hk (.inr h0)⟩
theorem MachT.same {last':List Int}{k':List (List TWay)}{d':TDom}{T':TDomS}{G':Nat→Nat→Prop}(h:MachT B c S sc Z gm m last k F FL FK A n Al nl Ak nk Gi W0 d T G W)(h':MachT B c S sc Z gm m last' k' F FL FK A n Al nl Ak nk Gi W0 d' T' G' W')(hB:B≤W0.heap.size){b:Nat}(hb:b < B):W'.heap[b]?=W.heap[b]?:=by
 have hlo:=h.lo
 have hn:¬ MOwn gm F FL FK b:=fun e=>by
  rcases e with e|e
  ·omega
  ·have:=(h.fp b e).1;omega
 exact (h'.eff.keep b (by omega) hn).trans (h.eff.keep b (by omega) hn).symm
theorem MachT.back {g i:Nat}(h:MachT B c S sc Z gm ds.length last k F FL FK A n Al nl Ak nk Gi W0 d T G W)(hg:F g)(hD:DomsO (fun b=>F b∨∃j,G j b) (((((((W.setCell ⟨g,i*7,none⟩ (.slice T.a0 d.jobs.length T.n0)).setCell ⟨g,i*7+1,none⟩ (.slice T.a1 d.released.length T.n1)).setCell ⟨g,i*7+2,none⟩ (.int .i64 d.next)).setCell ⟨g,i*7+3,none⟩ (.slice T.a2 d.ins.length T.n2)).setCell ⟨g,i*7+4,none⟩ (.slice T.a3 d.taken.length T.n3)).setCell ⟨g,i*7+5,none⟩ (.slice T.a4 d.outs.length T.n4)).setCell ⟨g,i*7+6,none⟩ (.slice T.a5 d.events.length T.n5)) (.slice A ds.length n) (ds.set i d)):
  MachW B c S sc Z gm (ds.set i d) last k (fun b=>F b∨∃j,G j b) FL FK A n Al nl Ak nk (((((((W.setCell ⟨g,i*7,none⟩ (.slice T.a0 d.jobs.length T.n0)).setCell ⟨g,i*7+1,none⟩ (.slice T.a1 d.released.length T.n1)).setCell ⟨g,i*7+2,none⟩ (.int .i64 d.next)).setCell ⟨g,i*7+3,none⟩ (.slice T.a2 d.ins.length T.n2)).setCell ⟨g,i*7+4,none⟩ (.slice T.a3 d.taken.length T.n3)).setCell ⟨g,i*7+5,none⟩ (.slice T.a4 d.outs.length T.n4)).setCell ⟨g,i*7+6,none⟩ (.slice T.a5 d.events.length T.n5)):=by
 have kp:∀b,b≠g→(((((((W.setCell ⟨g,i*7,none⟩ (.slice T.a0 d.jobs.length T.n0)).setCell ⟨g,i*7+1,none⟩ (.slice T.a1 d.released.length T.n1)).setCell ⟨g,i*7+2,none⟩ (.int .i64 d.next)).setCell ⟨g,i*7+3,none⟩ (.slice T.a2 d.ins.length T.n2)).setCell ⟨g,i*7+4,none⟩ (.slice T.a3 d.taken.length T.n3)).setCell ⟨g,i*7+5,none⟩ (.slice T.a4 d.outs.length T.n4)).setCell ⟨g,i*7+6,none⟩ (.slice T.a5 d.events.length T.n5)).heap[b]?=W.heap[b]?:=fun b hb=>put7_far hb
 have hfg:=h.fp g (.inl hg)
 have hlo:=h.lo
 have hne:∀b,b < B→b≠g:=fun b hb=>by omega
 refine ⟨?_,h.cfg.keep fun b hb=>kp b (hne b hb),h.scr.keep fun b hb=>kp b (hne b hb),by rw [List.length_set];exact hD,OZl.keep h.lst fun b hb=>kp b fun e=>((h.dd b).1 (e ▸ hg)).1 hb,OSl.keep h.cch fun b hb=>kp b fun e=>((h.dd b).1 (e ▸ hg)).2 hb,hlo,fun b hb=>?_,fun b=>⟨fun hb=>?_,(h.dd b).2⟩⟩
 ·rw [List.length_set]
  exact (kp gm (Ne.symm hfg.2.2)).trans h.blk
 ·rcases hb with (hb|⟨j,hb⟩)|hb
  ·simpa using h.fp b (.inl hb)
  ·exact ⟨(h.gx j b hb).1,by simpa using h.dom.lt j b hb,(h.gx j b hb).2.1⟩
  ·simpa using h.fp b (.inr hb)
 ·rcases hb with hb|⟨j,hb⟩
  ·exact (h.dd b).1 hb
  ·exact (h.gx j b hb).2.2
end
end
section
set_option maxRecDepth 100000
set_option maxHeartbeats 400000
def TellsChan (P:Program) (f:FuncId) (cap:Array Value) (xs:List TChan) (I:Nat→Prop) (p:Nat→Bool) (w:World):Prop:=
 ∀k,k < xs.length→∀w',Below w.heap.size w w'→Calls P f (#[.agg #[.int .i64 (nth xs k).src,.int .i64 (nth xs k).dst,.int .i64 (nth xs k).size]]++cap) w' fun e w''=>e= .returned (.bool (p k))∧Below w'.heap.size w' w''
theorem indexChan (xs:List TChan)(A:Option Addr)(c:Nat)(f:FuncId)(cap:Array Value)(p:Nat→Bool)(B:Nat)(w:World)(hB:B≤w.heap.size)
   (hs:Sl cChan (Low B) w A c xs) (he:Enters Tryd.prog f) (hf:TellsChan Tryd.prog f cap xs (Low B) p w):
    Calls Tryd.prog 68 #[.slice A xs.length c,.func (.func f) #[] cap] w fun e w'=>e= .returned (.int .i64 (findI xs.length p))∧Below w.heap.size w w':=by
  have hm:xs.length≤maxLen:=Nat.le_trans hs.cap hs.max
  unfold maxLen at hm
  unfold Enters at he
  go_enter Tryd.func68,Tryd.ntmps68
  go_wp2
  go_loopw [5,8] (fun _ i wr=>∃k:Nat,k≤xs.length∧i= .int .i64 k∧Hid (∀j,j < k→p j=false)∧Below w.heap.size w wr) (fun _ i _=>xs.length - (intOf i).toNat)
  case atStart=>exact ⟨0,Nat.zero_le _,rfl,fun j hj=>by omega,Below.refl _ _⟩
  case round=>
    obtain ⟨k,hk,rfl,hp,hbw⟩:=hrel
    by_cases hlt:k < xs.length
    · obtain ⟨b,o,rfl,hI,hc0,hc1,hc2⟩:=(hs.next hB hbw).at_chan hlt
      go_wp2_with (refine (hf k hlt wr hbw).mono ?_;rintro e w1 ⟨rfl,hb1⟩)
      · have h1:p k=true:=by assumption
        go_ret
        rw [findI_hit hlt hp.out h1]
        exact ⟨rfl,hbw.trans (hb1.mono hbw.size)⟩
      · have h1:p k=false:=by assumption
        go_roundw
        case rel=>exact ⟨k+1,by omega,by go_num,fun j hj=>by
          by_cases e:j=k
          · subst e;exact h1
          · exact hp.out j (by omega),hbw.trans (hb1.mono hbw.size)⟩
        case measure=>simp [intOf];omega
    · go_wp2
      go_ret
      rw [findI_none fun j hj=>hp.out j (by omega)]
      exact ⟨rfl,hbw⟩
theorem containsChan (xs:List TChan)(A:Option Addr)(c:Nat)(f:FuncId)(cap:Array Value)(p:Nat→Bool)(B:Nat)(w:World)(hB:B≤w.heap.size)
   (hs:Sl cChan (Low B) w A c xs) (he:Enters Tryd.prog f) (hf:TellsChan Tryd.prog f cap xs (Low B) p w):
    Calls Tryd.prog 57 #[.slice A xs.length c,.func (.func f) #[] cap] w fun e w'=>e= .returned (.bool (anyI xs.length p))∧Below w.heap.size w w':=by
  have H:=zH (indexChan xs A c f cap p B w hB hs he hf)
  clear hs he hf
  go_enter Tryd.func57,Tryd.ntmps57
  go_wp2_with (go_at_call 68;refine H.out.mono ?_;rintro e w1 ⟨rfl,hb1⟩)
  go_ret
  exact ⟨ret_bool (by rw [← findI_any]),hb1⟩
end
end Go.Proofs.YtinlmkhlgclbfabDoor
