/- RelA to SlotM -/
import Derived.Test.YtinlmkhlgclbfabDoorAs15
namespace Go.Proofs.YtinlmkhlgclbfabDoor
open Go.RowKit
section
set_option maxRecDepth 100000
set_option maxHeartbeats 4000000
structure DEff (B:Nat) (G G':Nat→Nat→Prop) (w w':World):Prop where
 below:Below B w w'
 keep:∀b,b < w.heap.size→(∀i,¬ G i b)→w'.heap[b]?=w.heap[b]?
 grow:∀i b,G' i b→G i b∨(w.heap.size≤b∧b < w'.heap.size)
theorem DEff.refl (B:Nat)(G:Nat→Nat→Prop)(w:World):DEff B G G w w:=⟨Below.refl _ _,fun _ _ _=>rfl,fun _ _ h=> .inl h⟩
theorem DEff.trans {B:Nat}{G G' G'':Nat→Nat→Prop}{w w' w'':World}(h:DEff B G G' w w')(h':DEff B G' G'' w' w''):DEff B G G'' w w'':=
 ⟨h.below.trans h'.below,fun b hb hG=>(h'.keep b (Nat.lt_of_lt_of_le hb h.below.size) (fun i hi=>by
  rcases h.grow i b hi with h1|h1
  ·exact hG i h1
  ·omega)).trans (h.keep b hb hG),fun i b hi=>by
  have:=h.below.size
  have:=h'.below.size
  rcases h'.grow i b hi with h1|h1
  ·rcases h.grow i b h1 with h2|h2
   ·exact .inl h2
   ·exact .inr ⟨h2.1,by omega⟩
  ·exact .inr ⟨by omega,h1.2⟩⟩
theorem DEff.ext {B:Nat}{G:Nat→Nat→Prop}{w w':World}(hB:B≤w.heap.size)(hb:Below w.heap.size w w'):DEff B G G w w':=
 ⟨hb.mono hB,fun b hlt _=>hb.block b hlt,fun _ _ h=> .inl h⟩
structure Dp (g:Nat) (G:Nat→Nat→Prop) (B:Nat) (w:World) (c:TCfg) (S:TCfgS) (d:TDom) (T:TDomS):Prop where
 blk:w.heap[g]?=some (.cells #[.slice T.a0 d.jobs.length T.n0,.slice T.a1 d.released.length T.n1,.int .i64 d.next,.slice T.a2 d.ins.length T.n2,.slice T.a3 d.taken.length T.n3,.slice T.a4 d.outs.length T.n4,.slice T.a5 d.events.length T.n5] 46)
 cfg:TCfg.At (Low B) w c S
 dom:DomO G w d T
 apart:∀i b,G i b→b≠g∧B≤b
 lo:B≤g
theorem Dp.ext {g:Nat}{G:Nat→Nat→Prop}{B:Nat}{w w':World}{c:TCfg}{S:TCfgS}{d:TDom}{T:TDomS}(h:Dp g G B w c S d T)(hb:Below w.heap.size w w'):Dp g G B w' c S d T:=by
 have hz:=(Go.Proofs.YtinlmkhlgclbfabDoor.blk h.blk).2.2
 exact ⟨(hb.block _ hz).trans h.blk,h.cfg.keep fun b hb'=>hb.block b (by simp only [Low] at hb';have:=h.lo;omega),h.dom.keep (fun i b hb'=>hb.block b (h.dom.lt i b hb')) hb.size,h.apart,h.lo⟩
theorem Dp.drewN {g:Nat}{G:Nat→Nat→Prop}{B:Nat}{w:World}{c:TCfg}{S:TCfgS}{d:TDom}{T:TDomS}(h:Dp g G B w c S d T)(n:Nat):Dp g G B (w.drewN n) c S d T:=h.ext (below_drewN (Below.refl _ _) n)
theorem dom_events {G:Nat→Nat→Prop}{B:Nat}{w:World}{d:TDom}{T:TDomS}(h:DomO G w d T)(hap:∀i b,G i b→B≤b)(hB:B≤w.heap.size)(ev:TEv){A:Option Addr}{cc:Nat}{W w3:World}(hW:Below w.heap.size w W)
  (hown:ownsZ w3 79 4 (.slice A (d.events.length+1) cc) (d.events.length+1) (d.events.flatMap TEv.cells++ev.cells)) (hg:W.grownBy w3 (rowZ (.slice T.a5 d.events.length T.n5)))
  (hat:∀b,rowZ (.slice A (d.events.length+1) cc)=some b→rowZ (.slice T.a5 d.events.length T.n5)=some b∨b=W.heap.size):
  DomO (addG G 5 W.heap.size w3.heap.size) w3 {d with events:=d.events++[ev]} {T with a5:=A,n5:=cc} ∧DEff B G (addG G 5 W.heap.size w3.heap.size) w w3:=by
 have hs3:=hg.size
 have hsW:=hW.size
 have hrow:∀b,rowZ (.slice T.a5 d.events.length T.n5)=some b→G 5 b:=(ozl_flat.1 h.o5).2
 have hold:∀b,b < w.heap.size→(¬ G 5 b)→w3.heap[b]?=w.heap[b]?:=fun b hb hn=>
  (hg.block b (by omega) (fun e=>hn (hrow b e.symm))).trans (hW.block b hb)
 have hD:=(h.keep (w':=W) (fun i b hb=>hW.block b (h.lt i b hb)) hsW).events (w1:=w3) [ev] (by simp) (by simpa using hown) hg hat
 refine ⟨hD,⟨?_,fun b hb hn=>hold b hb (hn 5),fun i b hb=>?_⟩⟩
 ·exact Below.grown (hW.mono hB) hg (by omega) (fun k hk=>hap 5 k (hrow k hk))
 ·rcases hb with hb|hb
  ·exact .inl hb
  ·exact .inr ⟨by omega,hb.2.2⟩
structure MachW (B:Nat) (c:TCfg) (S:TCfgS) (sc:TScr) (Z:TScrS) (gm:Nat) (ds:List TDom) (last:List Int) (k:List (List TWay)) (F FL FK:Nat→Prop) (A:Option Addr) (n:Nat) (Al:Option Addr) (nl:Nat) (Ak:Option Addr) (nk:Nat) (W:World):Prop where
 blk:W.heap[gm]?=some (.cells #[.int .i64 c.sets,.int .i64 c.ways,.int .i64 c.doms,.int .i64 c.pad,.int .i64 c.quantum,.slice S.a0 c.slots.length S.n0,.slice S.a1 c.owners.length S.n1,.slice S.a2 c.chans.length S.n2,.slice S.a3 c.tasks.length S.n3,.slice Z.a0 sc.actions.length Z.n0,.slice Z.a1 sc.arrivals.length Z.n1,.int .i64 sc.rounds,.slice A ds.length n,.slice Al last.length nl,.slice Ak k.length nk] 68)
 cfg:TCfg.At (Low B) W c S
 scr:TScr.At (Low B) W sc Z
 dom:DomsO F W (.slice A ds.length n) ds
 lst:OZl oInt 3 FL W (.slice Al last.length nl) last
 cch:OCache FK W (.slice Ak k.length nk) k
 lo:B≤gm
 fp:∀b,F b∨FL b∨FK b→B≤b∧b < W.heap.size∧b≠gm
 dd:∀b,(F b→¬ FL b∧¬ FK b)∧(FL b→¬ FK b)
section
variable {B : Nat} {c : TCfg} {S : TCfgS} {sc : TScr} {Z : TScrS} {gm : Nat} {ds : List TDom} {last : List Int} {k : List (List TWay)} {F FL FK : Nat → Prop} {A : Option Addr} {n : Nat} {Al : Option Addr} {nl : Nat} {Ak : Option Addr} {nk : Nat} {W W' : World}
theorem MachW.size (h:MachW B c S sc Z gm ds last k F FL FK A n Al nl Ak nk W):gm < W.heap.size:=(Go.Proofs.YtinlmkhlgclbfabDoor.blk h.blk).2.2
theorem MachW.keep (h:MachW B c S sc Z gm ds last k F FL FK A n Al nl Ak nk W)(hz:W.heap.size≤W'.heap.size)(hk:∀b,b < B∨b=gm∨F b∨FL b∨FK b→W'.heap[b]?=W.heap[b]?):MachW B c S sc Z gm ds last k F FL FK A n Al nl Ak nk W':=
 ⟨(hk gm (.inr (.inl rfl))).trans h.blk,h.cfg.keep fun b hb=>hk b (.inl hb),h.scr.keep fun b hb=>hk b (.inl hb),OZl.keep h.dom fun b hb=>hk b (.inr (.inr (.inl hb))),OZl.keep h.lst fun b hb=>hk b (.inr (.inr (.inr (.inl hb)))),OSl.keep h.cch fun b hb=>hk b (.inr (.inr (.inr (.inr hb)))),h.lo,fun b hb=>⟨(h.fp b hb).1,by have:=(h.fp b hb).2.1;omega,(h.fp b hb).2.2⟩,h.dd⟩
theorem MachW.ext (h:MachW B c S sc Z gm ds last k F FL FK A n Al nl Ak nk W)(hb:Below W.heap.size W W'):MachW B c S sc Z gm ds last k F FL FK A n Al nl Ak nk W':=
 h.keep hb.size fun b hx=>hb.block b (by
  have:=h.size
  have:=h.lo
  rcases hx with hx|hx|hx
  ·omega
  ·omega
  ·exact (h.fp b hx).2.1)
theorem MachW.low {B':Nat}(h:MachW B' c S sc Z gm ds last k F FL FK A n Al nl Ak nk W)(hB:B≤B')(hs:TCfg.At (Low B) W c S)(hz:TScr.At (Low B) W sc Z):MachW B c S sc Z gm ds last k F FL FK A n Al nl Ak nk W:=
 ⟨h.blk,hs,hz,h.dom,h.lst,h.cch,Nat.le_trans hB h.lo,fun b hb=>⟨Nat.le_trans hB (h.fp b hb).1,(h.fp b hb).2⟩,h.dd⟩
def RetMach (B:Nat) (c:TCfg) (S:TCfgS) (sc:TScr) (Z:TScrS) (ds:List TDom) (last:List Int) (k:List (List TWay)) (w:World) (e:Ending) (w':World):Prop:=
 ∃gm F FL FK A n Al nl Ak nk,e= .returned (.pointer (some ⟨gm,0,none⟩))∧MachW B c S sc Z gm ds last k F FL FK A n Al nl Ak nk w'∧w.heap.size≤gm∧(∀b,F b∨FL b∨FK b→w.heap.size≤b)∧Below w.heap.size w w'
theorem MachW.left (h:MachW B c S sc Z gm ds last k F FL FK A n Al nl Ak nk W){ds':List TDom}{F':Nat→Prop}(hD:DomsO F' W' (.slice A ds'.length n) ds')(hE:DEff B (fun _=>F) (fun _=>F') W W')(hlt:∀b,F' b→b < W'.heap.size)(hF:∀b,F' b→F b∨W.heap.size≤b)(hl:ds'.length=ds.length):
  MachW B c S sc Z gm ds' last k F' FL FK A n Al nl Ak nk W':=by
 have hs:=h.size
 have hlo:=h.lo
 have hz:=hE.below.size
 have kp:∀b,b < W.heap.size→¬ F b→W'.heap[b]?=W.heap[b]?:=fun b hb hf=>hE.keep b hb fun _=>hf
 have hg:¬ F gm:=fun h1=>(h.fp gm (.inl h1)).2.2 rfl
 have hB:∀b,b < B→¬ F b:=fun b hb hf=>by have:=(h.fp b (.inl hf)).1;omega
 refine ⟨?_,h.cfg.keep fun b hb=>kp b (by have hb':b < B:=hb;omega) (hB b hb),h.scr.keep fun b hb=>kp b (by have hb':b < B:=hb;omega) (hB b hb),hD,OZl.keep h.lst fun b hb=>kp b (h.fp b (.inr (.inl hb))).2.1 fun hf=>((h.dd b).1 hf).1 hb,
  OSl.keep h.cch fun b hb=>kp b (h.fp b (.inr (.inr hb))).2.1 fun hf=>((h.dd b).1 hf).2 hb,hlo,fun b hb=>?_,fun b=>⟨fun hb=>?_,(h.dd b).2⟩⟩
 ·rw [hl];exact (kp gm hs hg).trans h.blk
 ·rcases hb with hb|hb
  ·rcases hF b hb with h1|h1
   ·exact ⟨(h.fp b (.inl h1)).1,hlt b hb,(h.fp b (.inl h1)).2.2⟩
   ·exact ⟨by omega,hlt b hb,by omega⟩
  ·have:=h.fp b (.inr hb);exact ⟨this.1,by omega,this.2.2⟩
 ·rcases hF b hb with h1|h1
  ·exact (h.dd b).1 h1
  ·exact ⟨fun h2=>by have:=(h.fp b (.inr (.inl h2))).2.1;omega,fun h2=>by have:=(h.fp b (.inr (.inr h2))).2.1;omega⟩
theorem MachW.setLast (h:MachW B c S sc Z gm ds last k F FL FK A n Al nl Ak nk W){i:Nat}(hi:i < last.length):∃g,Al=some ⟨g,0,none⟩∧g < W.heap.size∧g≠gm∧B≤g∧W.cell? ⟨g,i,none⟩=some (.int .i64 (nth last i))∧(∀o,W.frozen? ⟨g,o,none⟩=false)∧
  ∀x,MachW B c S sc Z gm ds (last.set i x) k F FL FK A n Al nl Ak nk (W.setCell ⟨g,i,none⟩ (.int .i64 x)):=by
 obtain ⟨g,e,hg,hl,hc,hf,hset⟩:=ozl_flat_at (k:=1) (f:=fun n=>[.int .i64 n]) (hf:=fun _=>rfl) h.lst hi
 have hfp:=h.fp g (.inr (.inl hg))
 refine ⟨g,e,hl,hfp.2.2,hfp.1,by simpa using hc 0 _ rfl,hf,fun x=>?_⟩
 have h2:=hset 0 (.int .i64 x) x Nat.one_pos rfl
 simp only [Nat.mul_one,Nat.add_zero] at h2
 have kp:∀b,b≠g→(W.setCell ⟨g,i,none⟩ (.int .i64 x)).heap[b]?=W.heap[b]?:=fun b hb=>Below.heap_setCell _ _ _ _ hb
 have hlo:=h.lo
 have hBg:B≤g:=hfp.1
 have hne:∀b,b < B→b≠g:=fun b hb=>by omega
 refine ⟨?_,h.cfg.keep fun b hb=>kp b (hne b hb),h.scr.keep fun b hb=>kp b (hne b hb),OZl.keep h.dom fun b hb=>kp b fun e=>((h.dd b).1 hb).1 (e ▸ hg),by rw [List.length_set];exact h2,OSl.keep h.cch fun b hb=>kp b fun e=>(h.dd b).2 (e ▸ hg) hb,hlo,fun b hb=>by simpa using h.fp b hb,h.dd⟩
 rw [List.length_set]
 exact (kp gm (Ne.symm hfp.2.2)).trans h.blk
theorem MachW.push (h:MachW B c S sc Z gm ds last k F FL FK A n Al nl Ak nk W){x:TDom}{F':Nat→Prop}{A':Option Addr}{n':Nat}(hg:W'.heap[gm]?=W.heap[gm]?)(hk:∀b,b < W.heap.size→¬ F b→W'.heap[b]?=W.heap[b]?)(hz:W.heap.size≤W'.heap.size)
  (hD:DomsO F' W' (.slice A' (ds.length+1) n') (ds++[x])) (hF:∀b,F' b→(F b∨W.heap.size≤b)∧b < W'.heap.size):
  MachW B c S sc Z gm (ds++[x]) last k F' FL FK A' n' Al nl Ak nk (W'.setCell ⟨gm,12,none⟩ (.slice A' (ds.length+1) n')):=by
 have hs:=h.size
 have kp:∀b,b≠gm→(W'.setCell ⟨gm,12,none⟩ (.slice A' (ds.length+1) n')).heap[b]?=W'.heap[b]?:=fun b hb=>Below.heap_setCell _ _ _ _ hb
 have hlo:=h.lo
 have hFg:∀b,F' b→b≠gm:=fun b hb e=>by
  rcases (hF b hb).1 with h1|h1
  ·exact (h.fp b (.inl h1)).2.2 e
  ·omega
 have hB:∀b,b < B→(W'.setCell ⟨gm,12,none⟩ (.slice A' (ds.length+1) n')).heap[b]?=W.heap[b]?:=fun b hb=>(kp b (by omega)).trans (hk b (by omega) fun hf=>by have:=(h.fp b (.inl hf)).1;omega)
 refine ⟨?_,h.cfg.keep fun b hb=>hB b hb,h.scr.keep fun b hb=>hB b hb,?_,OZl.keep h.lst fun b hb=>(kp b (h.fp b (.inr (.inl hb))).2.2).trans (hk b (h.fp b (.inr (.inl hb))).2.1 fun hf=>((h.dd b).1 hf).1 hb),
  OSl.keep h.cch fun b hb=>(kp b (h.fp b (.inr (.inr hb))).2.2).trans (hk b (h.fp b (.inr (.inr hb))).2.1 fun hf=>((h.dd b).1 hf).2 hb),hlo,fun b hb=>?_,fun b=>⟨fun hb=>?_,(h.dd b).2⟩⟩
 ·have:=heap_set_same (i:=12) (u:= .slice A' (ds.length+1) n') (hg.trans h.blk)
  simpa using this
 ·rw [List.length_append]
  exact OZl.keep hD fun b hb=>kp b (hFg b hb)
 ·rcases hb with hb|hb
  ·refine ⟨?_,by simpa using (hF b hb).2,hFg b hb⟩
   rcases (hF b hb).1 with h1|h1
   ·exact (h.fp b (.inl h1)).1
   ·omega
  ·exact ⟨(h.fp b (.inr hb)).1,by have:=(h.fp b (.inr hb)).2.1;simp;omega,(h.fp b (.inr hb)).2.2⟩
 ·rcases (hF b hb).1 with h1|h1
  ·exact (h.dd b).1 h1
  ·exact ⟨fun h2=>by have:=(h.fp b (.inr (.inl h2))).2.1;omega,fun h2=>by have:=(h.fp b (.inr (.inr h2))).2.1;omega⟩
end
theorem put7_far {W:World}{g i b:Nat}{T':TDomS}{d':TDom}(hne:b≠g):(((((((W.setCell ⟨g,i*7,none⟩ (.slice T'.a0 d'.jobs.length T'.n0)).setCell ⟨g,i*7+1,none⟩ (.slice T'.a1 d'.released.length T'.n1)).setCell ⟨g,i*7+2,none⟩ (.int .i64 d'.next)).setCell ⟨g,i*7+3,none⟩ (.slice T'.a2 d'.ins.length T'.n2)).setCell ⟨g,i*7+4,none⟩ (.slice T'.a3 d'.taken.length T'.n3)).setCell ⟨g,i*7+5,none⟩ (.slice T'.a4 d'.outs.length T'.n4)).setCell ⟨g,i*7+6,none⟩ (.slice T'.a5 d'.events.length T'.n5)).heap[b]?=W.heap[b]?:=by
 exact ((Below.heap_setCell _ _ _ _ hne).trans ((Below.heap_setCell _ _ _ _ hne).trans ((Below.heap_setCell _ _ _ _ hne).trans ((Below.heap_setCell _ _ _ _ hne).trans ((Below.heap_setCell _ _ _ _ hne).trans ((Below.heap_setCell _ _ _ _ hne).trans ((Below.heap_setCell _ _ _ _ hne).trans rfl)))))))
theorem doms_take {F:Nat→Prop}{w:World}{A:Option Addr}{n:Nat}{ds:List TDom}(h:DomsO F w (.slice A ds.length n) ds){i:Nat}(hi:i < ds.length)(hF:∀b,F b→b < w.heap.size):
  ∃(g:Nat) (T:TDomS) (G:Nat→Nat→Prop) (Gi:Nat→Prop),A=some ⟨g,0,none⟩∧F g∧g < w.heap.size∧(∀j u,((nth ds i).cells T)[j]?=some u→w.cell? ⟨g,i*7+j,none⟩=some u)∧(∀o,w.frozen? ⟨g,o,none⟩=false)∧DomO G w (nth ds i) T∧(∀j b,G j b→Gi b)∧(∀b,Gi b→F b∧b≠g)∧
   ∀(W:World) (d':TDom) (T':TDomS) (G':Nat→Nat→Prop),DomO G' W d' T'→(∀j b,G' j b→Gi b∨w.heap.size≤b)→(∀b,F b→¬ Gi b→W.heap[b]?=w.heap[b]?)→
    DomsO (fun b=>F b∨∃j,G' j b) (((((((W.setCell ⟨g,i*7,none⟩ (.slice T'.a0 d'.jobs.length T'.n0)).setCell ⟨g,i*7+1,none⟩ (.slice T'.a1 d'.released.length T'.n1)).setCell ⟨g,i*7+2,none⟩ (.int .i64 d'.next)).setCell ⟨g,i*7+3,none⟩ (.slice T'.a2 d'.ins.length T'.n2)).setCell ⟨g,i*7+4,none⟩ (.slice T'.a3 d'.taken.length T'.n3)).setCell ⟨g,i*7+5,none⟩ (.slice T'.a4 d'.outs.length T'.n4)).setCell ⟨g,i*7+6,none⟩ (.slice T'.a5 d'.events.length T'.n5)) (.slice A ds.length n) (ds.set i d'):=by
 obtain ⟨g,c0,es,Gi,hv,hFg,hg,hrel,hcs,hGi,all,hown,hlt,hput⟩:=ozl_put h hi
 injection hv with ea _ en
 obtain ⟨T,G,rfl,hO,hG⟩:=hrel
 have hc0:0 < n:=by
  obtain ⟨_,_,hv',hn',_⟩:=ownZ_form h.choose_spec.choose_spec.2.1
  injection hv' with _ _ e3
  omega
 have hown':=hown
 rw [ea] at hown'
 obtain ⟨cur,hh⟩:=ownZ_live hown' hc0
 refine ⟨g,T,G,Gi,ea,hFg,hg,hcs,fun o=>(blk hh).2.1 o,hO,hG,hGi,fun W d' T' G' hO' hG' hWk=>?_⟩
 have hgG:¬ Gi g:=fun e=>(hGi g e).2 rfl
 have hfar:∀b,b≠g→(((((((W.setCell ⟨g,i*7,none⟩ (.slice T'.a0 d'.jobs.length T'.n0)).setCell ⟨g,i*7+1,none⟩ (.slice T'.a1 d'.released.length T'.n1)).setCell ⟨g,i*7+2,none⟩ (.int .i64 d'.next)).setCell ⟨g,i*7+3,none⟩ (.slice T'.a2 d'.ins.length T'.n2)).setCell ⟨g,i*7+4,none⟩ (.slice T'.a3 d'.taken.length T'.n3)).setCell ⟨g,i*7+5,none⟩ (.slice T'.a4 d'.outs.length T'.n4)).setCell ⟨g,i*7+6,none⟩ (.slice T'.a5 d'.events.length T'.n5)).heap[b]?=W.heap[b]?:=fun b hb=>put7_far hb
 have hG2:∀j b,G' j b→b≠g:=fun j b hb e=>by
  rcases hG' j b hb with h1|h1
  ·exact hgG (e ▸ h1)
  ·omega
 refine hput _ (d'.cells T') d' (fun b=>∃j,G' j b) _ rfl (fun all' ho hi' hl=>?_) ⟨T',G',rfl,hO'.keep (fun j b hb=>hfar b (hG2 j b hb)) (by simp),fun j b hb=>⟨j,hb⟩⟩ (fun b hb hn hne=>(hfar b hne).trans (hWk b hb hn)) (fun b hb=> .inl hb) (fun b ⟨j,hb⟩=>⟨?_,hG2 j b hb⟩) (fun b ⟨j,hb⟩ hFb=>?_)
 ·have hsz:(oDom.cod).size=7:=rfl
  rw [hsz] at ho hi' hlt hown
  have k6:=hlt 6 (by omega)
  have hW:ownsZ W 46 7 (.slice (some ⟨g,0,none⟩) ds.length n) ds.length all:=by
   rw [← ea]
   exact ownZ_keep hown fun b hb=>by
    rw [ea] at hb
    have hbg:b=g:=by have:=rowZ_own hb;simpa [Value.ownBlock] using this.symm
    subst hbg
    exact hWk b hFg hgG
  have h2:=(ownZ_set (ownZ_set (ownZ_set (ownZ_set (ownZ_set (ownZ_set (ownZ_set hW (j:=i*7) (by omega) (.slice T'.a0 d'.jobs.length T'.n0)) (j:=i*7+1) (by simp;omega) (.slice T'.a1 d'.released.length T'.n1)) (j:=i*7+2) (by simp;omega) (.int .i64 d'.next)) (j:=i*7+3) (by simp;omega) (.slice T'.a2 d'.ins.length T'.n2)) (j:=i*7+4) (by simp;omega) (.slice T'.a3 d'.taken.length T'.n3)) (j:=i*7+5) (by simp;omega) (.slice T'.a4 d'.outs.length T'.n4)) (j:=i*7+6) (by simp;omega) (.slice T'.a5 d'.events.length T'.n5))
  have:all'=(((((((all.set (i*7) (.slice T'.a0 d'.jobs.length T'.n0)).set (i*7+1) (.slice T'.a1 d'.released.length T'.n1)).set (i*7+2) (.int .i64 d'.next)).set (i*7+3) (.slice T'.a2 d'.ins.length T'.n2)).set (i*7+4) (.slice T'.a3 d'.taken.length T'.n3)).set (i*7+5) (.slice T'.a4 d'.outs.length T'.n4)).set (i*7+6) (.slice T'.a5 d'.events.length T'.n5)):=by
   refine List.ext_getElem? fun q=>?_
   rcases Nat.lt_or_ge q all.length with hq|hq
   ·by_cases hin:i*7≤q∧q < i*7+7
    ·obtain ⟨j,hj,rfl⟩:∃j,j < 7∧q=i*7+j:=⟨q - i*7,by omega,by omega⟩
     rw [hi' j hj]
     have hj':j=0∨j=1∨j=2∨j=3∨j=4∨j=5∨j=6:=by omega
     rcases hj' with rfl|rfl|rfl|rfl|rfl|rfl|rfl
     ·simp only [Nat.add_zero];rw [List.getElem?_set_ne (by omega),List.getElem?_set_ne (by omega),List.getElem?_set_ne (by omega),List.getElem?_set_ne (by omega),List.getElem?_set_ne (by omega),List.getElem?_set_ne (by omega),List.getElem?_set_self (by omega)];rfl
     ·rw [List.getElem?_set_ne (by omega),List.getElem?_set_ne (by omega),List.getElem?_set_ne (by omega),List.getElem?_set_ne (by omega),List.getElem?_set_ne (by omega),List.getElem?_set_self (by simp;omega)];rfl
     ·rw [List.getElem?_set_ne (by omega),List.getElem?_set_ne (by omega),List.getElem?_set_ne (by omega),List.getElem?_set_ne (by omega),List.getElem?_set_self (by simp;omega)];rfl
     ·rw [List.getElem?_set_ne (by omega),List.getElem?_set_ne (by omega),List.getElem?_set_ne (by omega),List.getElem?_set_self (by simp;omega)];rfl
     ·rw [List.getElem?_set_ne (by omega),List.getElem?_set_ne (by omega),List.getElem?_set_self (by simp;omega)];rfl
     ·rw [List.getElem?_set_ne (by omega),List.getElem?_set_self (by simp;omega)];rfl
     ·rw [List.getElem?_set_self (by simp;omega)];rfl
    ·rw [ho q hq (by omega),List.getElem?_set_ne (by omega),List.getElem?_set_ne (by omega),List.getElem?_set_ne (by omega),List.getElem?_set_ne (by omega),List.getElem?_set_ne (by omega),List.getElem?_set_ne (by omega),List.getElem?_set_ne (by omega)]
   ·rw [List.getElem?_eq_none (by omega),List.getElem?_eq_none (by simpa using hq)]
  rw [this,ea]
  exact h2
 ·exact .inr ⟨j,hb⟩
 ·rcases hG' j b hb with h1|h1
  ·exact h1
  ·have:=hF b hFb;omega
end
end Go.Proofs.YtinlmkhlgclbfabDoor
