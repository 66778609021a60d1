/- WinO -/
import Derived.Test.YtinlmkhlgclbfabWv25
import Derived.Test.YtinlmkhlgclbfabWv26
namespace Go.Proofs.Ytinlmkhlgclbfab
open Go.RowKit
set_option maxRecDepth 100000
set_option maxHeartbeats 4000000
theorem upd_at (f:Nat→Value)(d:Nat)(v:Value):upd f (some d) v d=v:=by simp [upd]
theorem upd_ne (f:Nat→Value){d e:Nat}(v:Value)(h:e≠d):upd f (some d) v e=f e:=by simp [upd,h]
structure BoxA (W0:World) (G:Nat→Nat→Prop) (F:Nat→Prop) (W:World) (v:Value) (t:TypeId) (xs:Array Value) (g:Nat):Prop where
 ptr:v= .pointer (some ⟨g,0,none⟩)
 rng:W0.heap.size≤g∧g < W.heap.size
 ng:∀i,¬ G i g
 nf:¬ F g
 blk:W.heap[g]?=some (.cells xs t)
structure RunG (W0:World) (d d1:TDom) (k k1:List (List TWay)) (l:Array Bool) (f:Nat→Value) (W:World) (G:Nat→Nat→Prop) (F:Nat→Prop) (T:TDomS) (A:Option Addr) (n:Nat):Prop where
 gr:∀i b,G i b→W0.heap.size≤b∧b < W.heap.size
 fr:∀b,F b→W0.heap.size≤b∧b < W.heap.size
 gf:∀i b,G i b→¬ F b
 o5:Lst l 5→Lst l 3
 o9:Lst l 9→Lst l 5
 o15:Lst l 15→Lst l 13
 o16:Lst l 16→Lst l 14
 s3:Lst l 3→¬ Lst l 9→f 56= .agg #[.slice T.a0 d.jobs.length T.n0,.slice T.a1 d.released.length T.n1,.int .i64 d.next,.slice T.a2 d.ins.length T.n2,.slice T.a3 d.taken.length T.n3,.slice T.a4 d.outs.length T.n4,.slice T.a5 d.events.length T.n5]∧DomO G W d T
 s5:Lst l 5→¬ Lst l 9→f 58= .agg #[.slice A k.length n]∧OCache F W (.slice A k.length n) k
 s9:Lst l 9→f 62= .tuple #[.agg #[.slice T.a0 d1.jobs.length T.n0,.slice T.a1 d1.released.length T.n1,.int .i64 d1.next,.slice T.a2 d1.ins.length T.n2,.slice T.a3 d1.taken.length T.n3,.slice T.a4 d1.outs.length T.n4,.slice T.a5 d1.events.length T.n5],.agg #[.slice A k1.length n]]∧DomO G W d1 T∧OCache F W (.slice A k1.length n) k1
 s10:Lst l 10→Lst l 9∧f 52= .tuple #[.agg #[.slice T.a0 d1.jobs.length T.n0,.slice T.a1 d1.released.length T.n1,.int .i64 d1.next,.slice T.a2 d1.ins.length T.n2,.slice T.a3 d1.taken.length T.n3,.slice T.a4 d1.outs.length T.n4,.slice T.a5 d1.events.length T.n5],.agg #[.slice A k1.length n]]
 s11:Lst l 11→Lst l 9∧f 63= .agg #[.slice T.a0 d1.jobs.length T.n0,.slice T.a1 d1.released.length T.n1,.int .i64 d1.next,.slice T.a2 d1.ins.length T.n2,.slice T.a3 d1.taken.length T.n3,.slice T.a4 d1.outs.length T.n4,.slice T.a5 d1.events.length T.n5]
 s12:Lst l 12→Lst l 9∧f 64= .agg #[.slice A k1.length n]
 s13:Lst l 13→∃g xs,BoxA W0 G F W (f 18) 45 xs g∧(¬ Lst l 15→xs=#[.slice none 0 0,.slice none 0 0,.int .i64 0,.slice none 0 0,.slice none 0 0,.slice none 0 0,.slice none 0 0])∧(Lst l 15→Lst l 11∧xs=#[.slice T.a0 d1.jobs.length T.n0,.slice T.a1 d1.released.length T.n1,.int .i64 d1.next,.slice T.a2 d1.ins.length T.n2,.slice T.a3 d1.taken.length T.n3,.slice T.a4 d1.outs.length T.n4,.slice T.a5 d1.events.length T.n5])
 s14:Lst l 14→∃g xs,BoxA W0 G F W (f 19) 63 xs g∧(¬ Lst l 16→xs=#[.slice none 0 0])∧(Lst l 16→Lst l 12∧xs=#[.slice A k1.length n])
def RunS (W0:World) (d d1:TDom) (k k1:List (List TWay)) (l:Array Bool) (f:Nat→Value) (W:World):Prop:=∃G F T A n,RunG W0 d d1 k k1 l f W G F T A n
section
variable {W0 W W' : World} {d d1 : TDom} {k k1 : List (List TWay)} {l : Array Bool} {f : Nat → Value} {G G' : Nat → Nat → Prop} {F F' : Nat → Prop} {T : TDomS} {A : Option Addr} {n : Nat} {v : Value} {t : TypeId} {xs : Array Value} {g : Nat}
theorem BoxA.turn (h:BoxA W0 G F W v t xs g)(hz:W.heap.size≤W'.heap.size)(hk:W'.heap[g]?=W.heap[g]?)(hg:∀i,¬ G' i g)(hf:¬ F' g):BoxA W0 G' F' W' v t xs g:=⟨h.ptr,⟨h.rng.1,by have:=h.rng.2;omega⟩,hg,hf,hk.trans h.blk⟩
theorem runS_start (hl:∀i,¬ Lst l i):RunS W0 d d1 k k1 l f W:=
 ⟨fun _ _=>False,fun _=>False,noDomS',none,0,⟨fun _ _ h=>h.elim,fun _ h=>h.elim,fun _ _ h=>h.elim,fun h=>absurd h (hl 5),fun h=>absurd h (hl 9),fun h=>absurd h (hl 15),fun h=>absurd h (hl 16),fun h=>absurd h (hl 3),fun h=>absurd h (hl 5),fun h=>absurd h (hl 9),fun h=>absurd h (hl 10),fun h=>absurd h (hl 11),fun h=>absurd h (hl 12),fun h=>absurd h (hl 13),fun h=>absurd h (hl 14)⟩⟩
where noDomS':TDomS:=⟨none,0,none,0,none,0,none,0,none,0,none,0⟩
theorem RunS.skip (h:RunS W0 d d1 k k1 l f W){i dd:Nat}(hi:i ∉ [3,5,9,10,11,12,13,14,15,16]:=by decide)(hd:dd ∉ [18,19,52,56,58,62,63,64]:=by decide):RunS W0 d d1 k k1 (l.setIfInBounds i true) (upd f (some dd) v) W:=by
 obtain ⟨G,F,T,A,n,h⟩:=h
 simp only [List.mem_cons,List.not_mem_nil,or_false,not_or] at hi hd
 obtain ⟨i1,i2,i3,i4,i5,i6,i7,i8,i9,i10⟩:=hi
 obtain ⟨d1',d2',d3',d4',d5',d6',d7',d8'⟩:=hd
 have u:=fun e (he:e≠dd)=>upd_ne f (d:=dd) v he
 refine ⟨G,F,T,A,n,h.gr,h.fr,h.gf,fun a=>(h.o5 (a.back i2)).fwd,fun a=>(h.o9 (a.back i3)).fwd,fun a=>(h.o15 (a.back i9)).fwd,fun a=>(h.o16 (a.back i10)).fwd,fun a b=>?_,fun a b=>?_,fun a=>?_,fun a=>?_,fun a=>?_,fun a=>?_,fun a=>?_,fun a=>?_⟩
 ·rw [u 56 (by omega)];exact h.s3 (a.back i1) fun c=>b c.fwd
 ·rw [u 58 (by omega)];exact h.s5 (a.back i2) fun c=>b c.fwd
 ·rw [u 62 (by omega)];exact h.s9 (a.back i3)
 ·rw [u 52 (by omega)];exact ⟨(h.s10 (a.back i4)).1.fwd,(h.s10 (a.back i4)).2⟩
 ·rw [u 63 (by omega)];exact ⟨(h.s11 (a.back i5)).1.fwd,(h.s11 (a.back i5)).2⟩
 ·rw [u 64 (by omega)];exact ⟨(h.s12 (a.back i6)).1.fwd,(h.s12 (a.back i6)).2⟩
 ·rw [u 18 (by omega)]
  obtain ⟨g,xs,hb,h1,h2⟩:=h.s13 (a.back i7)
  exact ⟨g,xs,hb,fun c=>h1 fun e=>c e.fwd,fun c=>⟨(h2 (c.back i9)).1.fwd,(h2 (c.back i9)).2⟩⟩
 ·rw [u 19 (by omega)]
  obtain ⟨g,xs,hb,h1,h2⟩:=h.s14 (a.back i8)
  exact ⟨g,xs,hb,fun c=>h1 fun e=>c e.fwd,fun c=>⟨(h2 (c.back i10)).1.fwd,(h2 (c.back i10)).2⟩⟩
theorem RunG.own (h:RunG W0 d d1 k k1 l f W G F T A n)(hz:l.size=17){G':Nat→Nat→Prop}{T':TDomS}(hn:¬ Lst l 3)(h0:W0.heap.size≤W.heap.size)(hO:DomO G' W' d T')(hG:∀i b,G' i b→W.heap.size≤b)(hW:Below W.heap.size W W'):RunS W0 d d1 k k1 (l.setIfInBounds 3 true) (upd f (some 56) (.agg #[.slice T'.a0 d.jobs.length T'.n0,.slice T'.a1 d.released.length T'.n1,.int .i64 d.next,.slice T'.a2 d.ins.length T'.n2,.slice T'.a3 d.taken.length T'.n3,.slice T'.a4 d.outs.length T'.n4,.slice T'.a5 d.events.length T'.n5])) W':=by
 have self:Lst (l.setIfInBounds 3 true) 3:=Lst.self (by omega)
 refine ⟨G',fun _=>False,T',none,0,fun i b hb=>⟨by have:=hG i b hb;omega,hO.lt i b hb⟩,fun _ h=>h.elim,fun _ _ _ h=>h.elim,fun a=>absurd (h.o5 a.b) hn,fun a=>(h.o9 a.b).fwd,fun a=>(h.o15 a.b).fwd,fun a=>(h.o16 a.b).fwd,fun a b=>?_,fun a b=>?_,fun a=>?_,fun a=>?_,fun a=>?_,fun a=>?_,fun a=>?_,fun a=>?_⟩
 ·exact ⟨upd_at _ _ _,hO⟩
 ·exact absurd (h.o5 a.b) hn
 ·exact absurd (h.o5 (h.o9 a.b)) hn
 ·exact absurd (h.o5 (h.o9 (h.s10 a.b).1)) hn
 ·exact absurd (h.o5 (h.o9 (h.s11 a.b).1)) hn
 ·exact absurd (h.o5 (h.o9 (h.s12 a.b).1)) hn
 ·rw [upd_ne f _ (show 18≠56 by decide)]
  obtain ⟨g,xs,hb,h1,h2⟩:=h.s13 a.b
  have hg:=hb.rng
  exact ⟨g,xs,hb.turn hW.size (hW.block _ hg.2) (fun i hi=>by have:=hG i g hi;omega) (fun e=>e),fun c=>h1 fun e=>c e.fwd,fun c=>absurd (h.o5 (h.o9 (h.s11 (h2 c.b).1).1)) hn⟩
 ·rw [upd_ne f _ (show 19≠56 by decide)]
  obtain ⟨g,xs,hb,h1,h2⟩:=h.s14 a.b
  have hg:=hb.rng
  exact ⟨g,xs,hb.turn hW.size (hW.block _ hg.2) (fun i hi=>by have:=hG i g hi;omega) (fun e=>e),fun c=>h1 fun e=>c e.fwd,fun c=>absurd (h.o5 (h.o9 (h.s12 (h2 c.b).1).1)) hn⟩
theorem RunG.cache (h:RunG W0 d d1 k k1 l f W G F T A n)(hz:l.size=17){A':Option Addr}{n':Nat}(hn:¬ Lst l 5)(h3:Lst l 3)(h0:W0.heap.size≤W.heap.size)(hO:OCache (Rng W.heap.size W'.heap.size) W' (.slice A' k.length n') k)(hW:Below W.heap.size W W'):RunS W0 d d1 k k1 (l.setIfInBounds 5 true) (upd f (some 58) (.agg #[.slice A' k.length n'])) W':=by
 have self:Lst (l.setIfInBounds 5 true) 5:=Lst.self (by omega)
 refine ⟨G,Rng W.heap.size W'.heap.size,T,A',n',fun i b hb=>⟨(h.gr i b hb).1,by have:=(h.gr i b hb).2;have:=hW.size;omega⟩,fun b hb=>⟨by have:=hb.1;omega,hb.2⟩,fun i b hb hf=>by have:=(h.gr i b hb).2;have:=hf.1;omega,fun _=>h3.fwd,fun _=>self,fun a=>(h.o15 a.b).fwd,fun a=>(h.o16 a.b).fwd,fun a b=>?_,fun a b=>?_,fun a=>?_,fun a=>?_,fun a=>?_,fun a=>?_,fun a=>?_,fun a=>?_⟩
 ·rw [upd_ne f _ (show 56≠58 by decide)]
  obtain ⟨e1,e2⟩:=h.s3 a.b (fun c=>b c.fwd)
  exact ⟨e1,e2.keep (fun i b hb=>hW.block b (h.gr i b hb).2) hW.size⟩
 ·exact ⟨upd_at _ _ _,hO⟩
 ·exact absurd (h.o9 a.b) hn
 ·exact absurd (h.o9 (h.s10 a.b).1) hn
 ·exact absurd (h.o9 (h.s11 a.b).1) hn
 ·exact absurd (h.o9 (h.s12 a.b).1) hn
 ·rw [upd_ne f _ (show 18≠58 by decide)]
  obtain ⟨g,xs,hb,h1,h2⟩:=h.s13 a.b
  have hg:=hb.rng
  exact ⟨g,xs,hb.turn hW.size (hW.block _ hg.2) hb.ng (fun e=>by have:=e.1;omega),fun c=>h1 fun e=>c e.fwd,fun c=>absurd (h.o9 (h.s11 (h2 c.b).1).1) hn⟩
 ·rw [upd_ne f _ (show 19≠58 by decide)]
  obtain ⟨g,xs,hb,h1,h2⟩:=h.s14 a.b
  have hg:=hb.rng
  exact ⟨g,xs,hb.turn hW.size (hW.block _ hg.2) hb.ng (fun e=>by have:=e.1;omega),fun c=>h1 fun e=>c e.fwd,fun c=>absurd (h.o9 (h.s12 (h2 c.b).1).1) hn⟩
theorem RunG.raw (h:RunG W0 d d1 k k1 l f W G F T A n)(hz:l.size=17){G':Nat→Nat→Prop}{T':TDomS}{B:Nat}(hn:¬ Lst l 9)(h5:Lst l 5)(h0:W0.heap.size≤W.heap.size)(hO:DomO G' W' d1 T')(hK:OCache F W' (.slice A k1.length n) k1)(hE:WEff B F G G' W W')(hGF:∀i b,G' i b→¬ F b):RunS W0 d d1 k k1 (l.setIfInBounds 9 true) (upd f (some 62) (.tuple #[.agg #[.slice T'.a0 d1.jobs.length T'.n0,.slice T'.a1 d1.released.length T'.n1,.int .i64 d1.next,.slice T'.a2 d1.ins.length T'.n2,.slice T'.a3 d1.taken.length T'.n3,.slice T'.a4 d1.outs.length T'.n4,.slice T'.a5 d1.events.length T'.n5],.agg #[.slice A k1.length n]])) W':=by
 have self:Lst (l.setIfInBounds 9 true) 9:=Lst.self (by omega)
 refine ⟨G',F,T',A,n,fun i b hb=>by rcases hE.grow i b hb with e|e;exact ⟨(h.gr i b e).1,hO.lt i b hb⟩;exact ⟨by omega,e.2⟩,fun b hb=>⟨(h.fr b hb).1,by have:=(h.fr b hb).2;have:=hE.below.size;omega⟩,hGF,fun a=>(h.o5 a.b).fwd,fun _=>h5.fwd,fun a=>(h.o15 a.b).fwd,fun a=>(h.o16 a.b).fwd,fun a b=>?_,fun a b=>?_,fun a=>?_,fun a=>?_,fun a=>?_,fun a=>?_,fun a=>?_,fun a=>?_⟩
 ·exact absurd self b
 ·exact absurd self b
 ·exact ⟨upd_at _ _ _,hO,hK⟩
 ·exact absurd (h.s10 a.b).1 hn
 ·exact absurd (h.s11 a.b).1 hn
 ·exact absurd (h.s12 a.b).1 hn
 ·rw [upd_ne f _ (show 18≠62 by decide)]
  obtain ⟨g,xs,hb,h1,h2⟩:=h.s13 a.b
  have hg:=hb.rng
  exact ⟨g,xs,hb.turn hE.below.size (hE.keep g hg.2 hb.ng hb.nf) (fun i hi=>by rcases hE.grow i g hi with e|e;exact hb.ng i e;omega) hb.nf,fun c=>h1 fun e=>c e.fwd,fun c=>absurd (h.s11 (h2 c.b).1).1 hn⟩
 ·rw [upd_ne f _ (show 19≠62 by decide)]
  obtain ⟨g,xs,hb,h1,h2⟩:=h.s14 a.b
  have hg:=hb.rng
  exact ⟨g,xs,hb.turn hE.below.size (hE.keep g hg.2 hb.ng hb.nf) (fun i hi=>by rcases hE.grow i g hi with e|e;exact hb.ng i e;omega) hb.nf,fun c=>h1 fun e=>c e.fwd,fun c=>absurd (h.s12 (h2 c.b).1).1 hn⟩
theorem RunG.o10 (h:RunG W0 d d1 k k1 l f W G F T A n)(hz:l.size=17)(h9:Lst l 9):RunS W0 d d1 k k1 (l.setIfInBounds 10 true) (upd f (some 52) (.tuple #[.agg #[.slice T.a0 d1.jobs.length T.n0,.slice T.a1 d1.released.length T.n1,.int .i64 d1.next,.slice T.a2 d1.ins.length T.n2,.slice T.a3 d1.taken.length T.n3,.slice T.a4 d1.outs.length T.n4,.slice T.a5 d1.events.length T.n5],.agg #[.slice A k1.length n]])) W:=by
 have self:Lst (l.setIfInBounds 10 true) 10:=Lst.self (by omega)
 refine ⟨G,F,T,A,n,h.gr,h.fr,h.gf,fun a=>(h.o5 a.b).fwd,fun a=>(h.o9 a.b).fwd,fun a=>(h.o15 a.b).fwd,fun a=>(h.o16 a.b).fwd,fun a b=>?_,fun a b=>?_,fun a=>?_,fun a=>?_,fun a=>?_,fun a=>?_,fun a=>?_,fun a=>?_⟩
 ·rw [upd_ne f _ (show 56≠52 by decide)];exact h.s3 a.b fun c=>b c.fwd
 ·rw [upd_ne f _ (show 58≠52 by decide)];exact h.s5 a.b fun c=>b c.fwd
 ·rw [upd_ne f _ (show 62≠52 by decide)];exact h.s9 a.b
 ·exact ⟨h9.fwd,upd_at _ _ _⟩
 ·rw [upd_ne f _ (show 63≠52 by decide)];exact ⟨(h.s11 a.b).1.fwd,(h.s11 a.b).2⟩
 ·rw [upd_ne f _ (show 64≠52 by decide)];exact ⟨(h.s12 a.b).1.fwd,(h.s12 a.b).2⟩
 ·rw [upd_ne f _ (show 18≠52 by decide)]
  obtain ⟨g,xs,hb,h1,h2⟩:=h.s13 a.b
  exact ⟨g,xs,hb,fun c=>h1 fun e=>c e.fwd,fun c=>⟨(h2 c.b).1.fwd,(h2 c.b).2⟩⟩
 ·rw [upd_ne f _ (show 19≠52 by decide)]
  obtain ⟨g,xs,hb,h1,h2⟩:=h.s14 a.b
  exact ⟨g,xs,hb,fun c=>h1 fun e=>c e.fwd,fun c=>⟨(h2 c.b).1.fwd,(h2 c.b).2⟩⟩
theorem RunG.o11 (h:RunG W0 d d1 k k1 l f W G F T A n)(hz:l.size=17)(h9:Lst l 9):RunS W0 d d1 k k1 (l.setIfInBounds 11 true) (upd f (some 63) (.agg #[.slice T.a0 d1.jobs.length T.n0,.slice T.a1 d1.released.length T.n1,.int .i64 d1.next,.slice T.a2 d1.ins.length T.n2,.slice T.a3 d1.taken.length T.n3,.slice T.a4 d1.outs.length T.n4,.slice T.a5 d1.events.length T.n5])) W:=by
 have self:Lst (l.setIfInBounds 11 true) 11:=Lst.self (by omega)
 refine ⟨G,F,T,A,n,h.gr,h.fr,h.gf,fun a=>(h.o5 a.b).fwd,fun a=>(h.o9 a.b).fwd,fun a=>(h.o15 a.b).fwd,fun a=>(h.o16 a.b).fwd,fun a b=>?_,fun a b=>?_,fun a=>?_,fun a=>?_,fun a=>?_,fun a=>?_,fun a=>?_,fun a=>?_⟩
 ·rw [upd_ne f _ (show 56≠63 by decide)];exact h.s3 a.b fun c=>b c.fwd
 ·rw [upd_ne f _ (show 58≠63 by decide)];exact h.s5 a.b fun c=>b c.fwd
 ·rw [upd_ne f _ (show 62≠63 by decide)];exact h.s9 a.b
 ·rw [upd_ne f _ (show 52≠63 by decide)];exact ⟨(h.s10 a.b).1.fwd,(h.s10 a.b).2⟩
 ·exact ⟨h9.fwd,upd_at _ _ _⟩
 ·rw [upd_ne f _ (show 64≠63 by decide)];exact ⟨(h.s12 a.b).1.fwd,(h.s12 a.b).2⟩
 ·rw [upd_ne f _ (show 18≠63 by decide)]
  obtain ⟨g,xs,hb,h1,h2⟩:=h.s13 a.b
  exact ⟨g,xs,hb,fun c=>h1 fun e=>c e.fwd,fun c=>⟨(h2 c.b).1.fwd,(h2 c.b).2⟩⟩
 ·rw [upd_ne f _ (show 19≠63 by decide)]
  obtain ⟨g,xs,hb,h1,h2⟩:=h.s14 a.b
  exact ⟨g,xs,hb,fun c=>h1 fun e=>c e.fwd,fun c=>⟨(h2 c.b).1.fwd,(h2 c.b).2⟩⟩
theorem RunG.o12 (h:RunG W0 d d1 k k1 l f W G F T A n)(hz:l.size=17)(h9:Lst l 9):RunS W0 d d1 k k1 (l.setIfInBounds 12 true) (upd f (some 64) (.agg #[.slice A k1.length n])) W:=by
 have self:Lst (l.setIfInBounds 12 true) 12:=Lst.self (by omega)
 refine ⟨G,F,T,A,n,h.gr,h.fr,h.gf,fun a=>(h.o5 a.b).fwd,fun a=>(h.o9 a.b).fwd,fun a=>(h.o15 a.b).fwd,fun a=>(h.o16 a.b).fwd,fun a b=>?_,fun a b=>?_,fun a=>?_,fun a=>?_,fun a=>?_,fun a=>?_,fun a=>?_,fun a=>?_⟩
 ·rw [upd_ne f _ (show 56≠64 by decide)];exact h.s3 a.b fun c=>b c.fwd
 ·rw [upd_ne f _ (show 58≠64 by decide)];exact h.s5 a.b fun c=>b c.fwd
 ·rw [upd_ne f _ (show 62≠64 by decide)];exact h.s9 a.b
 ·rw [upd_ne f _ (show 52≠64 by decide)];exact ⟨(h.s10 a.b).1.fwd,(h.s10 a.b).2⟩
 ·rw [upd_ne f _ (show 63≠64 by decide)];exact ⟨(h.s11 a.b).1.fwd,(h.s11 a.b).2⟩
 ·exact ⟨h9.fwd,upd_at _ _ _⟩
 ·rw [upd_ne f _ (show 18≠64 by decide)]
  obtain ⟨g,xs,hb,h1,h2⟩:=h.s13 a.b
  exact ⟨g,xs,hb,fun c=>h1 fun e=>c e.fwd,fun c=>⟨(h2 c.b).1.fwd,(h2 c.b).2⟩⟩
 ·rw [upd_ne f _ (show 19≠64 by decide)]
  obtain ⟨g,xs,hb,h1,h2⟩:=h.s14 a.b
  exact ⟨g,xs,hb,fun c=>h1 fun e=>c e.fwd,fun c=>⟨(h2 c.b).1.fwd,(h2 c.b).2⟩⟩
theorem RunG.o13 (h:RunG W0 d d1 k k1 l f W G F T A n)(hz:l.size=17)(hn:¬ Lst l 13)(h0:W0.heap.size≤W.heap.size):RunS W0 d d1 k k1 (l.setIfInBounds 13 true) (upd f (some 18) (.pointer (some ⟨W.heap.size,0,none⟩))) (W.alloc (.cells #[.slice none 0 0,.slice none 0 0,.int .i64 0,.slice none 0 0,.slice none 0 0,.slice none 0 0,.slice none 0 0] 45)):=by
 have self:Lst (l.setIfInBounds 13 true) 13:=Lst.self (by omega)
 refine ⟨G,F,T,A,n,fun i b hb=>⟨(h.gr i b hb).1,by have:=(h.gr i b hb).2;simp;omega⟩,fun b hb=>⟨(h.fr b hb).1,by have:=(h.fr b hb).2;simp;omega⟩,h.gf,fun a=>(h.o5 a.b).fwd,fun a=>(h.o9 a.b).fwd,fun a=>(h.o15 a.b).fwd,fun a=>(h.o16 a.b).fwd,fun a b=>?_,fun a b=>?_,fun a=>?_,fun a=>?_,fun a=>?_,fun a=>?_,fun a=>?_,fun a=>?_⟩
 ·rw [upd_ne f _ (show 56≠18 by decide)]
  obtain ⟨e1,e2⟩:=h.s3 a.b (fun c=>b c.fwd)
  exact ⟨e1,e2.keep (fun i b hb=>heap_alloc_old _ _ (h.gr i b hb).2) (by simp)⟩
 ·rw [upd_ne f _ (show 58≠18 by decide)]
  obtain ⟨e1,e3⟩:=h.s5 a.b (fun c=>b c.fwd)
  exact ⟨e1,OSl.keep e3 fun b hb=>heap_alloc_old _ _ (h.fr b hb).2⟩
 ·rw [upd_ne f _ (show 62≠18 by decide)]
  obtain ⟨e1,e2,e3⟩:=h.s9 a.b
  exact ⟨e1,e2.keep (fun i b hb=>heap_alloc_old _ _ (h.gr i b hb).2) (by simp),OSl.keep e3 fun b hb=>heap_alloc_old _ _ (h.fr b hb).2⟩
 ·rw [upd_ne f _ (show 52≠18 by decide)];exact ⟨(h.s10 a.b).1.fwd,(h.s10 a.b).2⟩
 ·rw [upd_ne f _ (show 63≠18 by decide)];exact ⟨(h.s11 a.b).1.fwd,(h.s11 a.b).2⟩
 ·rw [upd_ne f _ (show 64≠18 by decide)];exact ⟨(h.s12 a.b).1.fwd,(h.s12 a.b).2⟩
 ·exact ⟨W.heap.size,_,⟨upd_at _ _ _,⟨h0,by simp⟩,fun i hi=>by have:=(h.gr i _ hi).2;omega,fun hf=>by have:=(h.fr _ hf).2;omega,heap_alloc_new _ _⟩,fun _=>rfl,fun c=>absurd (h.o15 c.b) hn⟩
 ·rw [upd_ne f _ (show 19≠18 by decide)]
  obtain ⟨g,xs,hb,h1,h2⟩:=h.s14 a.b
  exact ⟨g,xs,hb.turn (by simp) (heap_alloc_old _ _ hb.rng.2) hb.ng hb.nf,fun c=>h1 fun e=>c e.fwd,fun c=>⟨(h2 c.b).1.fwd,(h2 c.b).2⟩⟩
theorem RunG.o14 (h:RunG W0 d d1 k k1 l f W G F T A n)(hz:l.size=17)(hn:¬ Lst l 14)(h0:W0.heap.size≤W.heap.size):RunS W0 d d1 k k1 (l.setIfInBounds 14 true) (upd f (some 19) (.pointer (some ⟨W.heap.size,0,none⟩))) (W.alloc (.cells #[.slice none 0 0] 63)):=by
 have self:Lst (l.setIfInBounds 14 true) 14:=Lst.self (by omega)
 refine ⟨G,F,T,A,n,fun i b hb=>⟨(h.gr i b hb).1,by have:=(h.gr i b hb).2;simp;omega⟩,fun b hb=>⟨(h.fr b hb).1,by have:=(h.fr b hb).2;simp;omega⟩,h.gf,fun a=>(h.o5 a.b).fwd,fun a=>(h.o9 a.b).fwd,fun a=>(h.o15 a.b).fwd,fun a=>(h.o16 a.b).fwd,fun a b=>?_,fun a b=>?_,fun a=>?_,fun a=>?_,fun a=>?_,fun a=>?_,fun a=>?_,fun a=>?_⟩
 ·rw [upd_ne f _ (show 56≠19 by decide)]
  obtain ⟨e1,e2⟩:=h.s3 a.b (fun c=>b c.fwd)
  exact ⟨e1,e2.keep (fun i b hb=>heap_alloc_old _ _ (h.gr i b hb).2) (by simp)⟩
 ·rw [upd_ne f _ (show 58≠19 by decide)]
  obtain ⟨e1,e3⟩:=h.s5 a.b (fun c=>b c.fwd)
  exact ⟨e1,OSl.keep e3 fun b hb=>heap_alloc_old _ _ (h.fr b hb).2⟩
 ·rw [upd_ne f _ (show 62≠19 by decide)]
  obtain ⟨e1,e2,e3⟩:=h.s9 a.b
  exact ⟨e1,e2.keep (fun i b hb=>heap_alloc_old _ _ (h.gr i b hb).2) (by simp),OSl.keep e3 fun b hb=>heap_alloc_old _ _ (h.fr b hb).2⟩
 ·rw [upd_ne f _ (show 52≠19 by decide)];exact ⟨(h.s10 a.b).1.fwd,(h.s10 a.b).2⟩
 ·rw [upd_ne f _ (show 63≠19 by decide)];exact ⟨(h.s11 a.b).1.fwd,(h.s11 a.b).2⟩
 ·rw [upd_ne f _ (show 64≠19 by decide)];exact ⟨(h.s12 a.b).1.fwd,(h.s12 a.b).2⟩
 ·rw [upd_ne f _ (show 18≠19 by decide)]
  obtain ⟨g,xs,hb,h1,h2⟩:=h.s13 a.b
  exact ⟨g,xs,hb.turn (by simp) (heap_alloc_old _ _ hb.rng.2) hb.ng hb.nf,fun c=>h1 fun e=>c e.fwd,fun c=>⟨(h2 c.b).1.fwd,(h2 c.b).2⟩⟩
 ·exact ⟨W.heap.size,_,⟨upd_at _ _ _,⟨h0,by simp⟩,fun i hi=>by have:=(h.gr i _ hi).2;omega,fun hf=>by have:=(h.fr _ hf).2;omega,heap_alloc_new _ _⟩,fun _=>rfl,fun c=>absurd (h.o16 c.b) hn⟩
theorem upd_none (f:Nat→Value)(v:Value):upd f none v=f:=by funext k;simp [upd]
theorem RunG.st15 (h:RunG W0 d d1 k k1 l f W G F T A n)(hz:l.size=17){g:Nat}(h13:Lst l 13)(h11:Lst l 11)(hp:f 18= .pointer (some ⟨g,0,none⟩))(hr0:W0.heap.size≤g)(hr1:g < W.heap.size)(hng:∀i,¬ G i g)(hnf:¬ F g)(hsz:W'.heap.size=W.heap.size)(hk:∀b,b≠g→W'.heap[b]?=W.heap[b]?)(hne:∀b {xs},W.heap[b]?=some (.cells xs 63)→b≠g)(hnew:W'.heap[g]?=some (.cells #[.slice T.a0 d1.jobs.length T.n0,.slice T.a1 d1.released.length T.n1,.int .i64 d1.next,.slice T.a2 d1.ins.length T.n2,.slice T.a3 d1.taken.length T.n3,.slice T.a4 d1.outs.length T.n4,.slice T.a5 d1.events.length T.n5] 45)):RunS W0 d d1 k k1 (l.setIfInBounds 15 true) (upd f none (v)) W':=by
 have self:Lst (l.setIfInBounds 15 true) 15:=Lst.self (by omega)
 refine ⟨G,F,T,A,n,fun i b hb=>⟨(h.gr i b hb).1,by have:=(h.gr i b hb).2;omega⟩,fun b hb=>⟨(h.fr b hb).1,by have:=(h.fr b hb).2;omega⟩,h.gf,fun a=>(h.o5 a.b).fwd,fun a=>(h.o9 a.b).fwd,fun _=>h13.fwd,fun a=>(h.o16 a.b).fwd,fun a b=>?_,fun a b=>?_,fun a=>?_,fun a=>?_,fun a=>?_,fun a=>?_,fun a=>?_,fun a=>?_⟩
 ·rw [upd_none]
  obtain ⟨e1,e2⟩:=h.s3 a.b (fun c=>b c.fwd)
  exact ⟨e1,e2.keep (fun i b hb=>hk b fun e=>hng i (e ▸ hb)) (by omega)⟩
 ·rw [upd_none]
  obtain ⟨e1,e3⟩:=h.s5 a.b (fun c=>b c.fwd)
  exact ⟨e1,OSl.keep e3 fun b hb=>hk b fun e=>hnf (e ▸ hb)⟩
 ·rw [upd_none]
  obtain ⟨e1,e2,e3⟩:=h.s9 a.b
  exact ⟨e1,e2.keep (fun i b hb=>hk b fun e=>hng i (e ▸ hb)) (by omega),OSl.keep e3 fun b hb=>hk b fun e=>hnf (e ▸ hb)⟩
 ·rw [upd_none];exact ⟨(h.s10 a.b).1.fwd,(h.s10 a.b).2⟩
 ·rw [upd_none];exact ⟨(h.s11 a.b).1.fwd,(h.s11 a.b).2⟩
 ·rw [upd_none];exact ⟨(h.s12 a.b).1.fwd,(h.s12 a.b).2⟩
 ·rw [upd_none]
  exact ⟨g,_,⟨hp,⟨hr0,by omega⟩,hng,hnf,hnew⟩,fun c=>absurd self c,fun _=>⟨h11.fwd,rfl⟩⟩
 ·rw [upd_none]
  obtain ⟨g,xs,hb,h1,h2⟩:=h.s14 a.b
  exact ⟨g,xs,hb.turn (by omega) (hk g (hne g hb.blk)) hb.ng hb.nf,fun c=>h1 fun e=>c e.fwd,fun c=>⟨(h2 c.b).1.fwd,(h2 c.b).2⟩⟩
theorem RunG.st16 (h:RunG W0 d d1 k k1 l f W G F T A n)(hz:l.size=17){g:Nat}(h14:Lst l 14)(h12:Lst l 12)(hp:f 19= .pointer (some ⟨g,0,none⟩))(hr0:W0.heap.size≤g)(hr1:g < W.heap.size)(hng:∀i,¬ G i g)(hnf:¬ F g)(hsz:W'.heap.size=W.heap.size)(hk:∀b,b≠g→W'.heap[b]?=W.heap[b]?)(hne:∀b {xs},W.heap[b]?=some (.cells xs 45)→b≠g)(hnew:W'.heap[g]?=some (.cells #[.slice A k1.length n] 63)):RunS W0 d d1 k k1 (l.setIfInBounds 16 true) (upd f none (v)) W':=by
 have self:Lst (l.setIfInBounds 16 true) 16:=Lst.self (by omega)
 refine ⟨G,F,T,A,n,fun i b hb=>⟨(h.gr i b hb).1,by have:=(h.gr i b hb).2;omega⟩,fun b hb=>⟨(h.fr b hb).1,by have:=(h.fr b hb).2;omega⟩,h.gf,fun a=>(h.o5 a.b).fwd,fun a=>(h.o9 a.b).fwd,fun a=>(h.o15 a.b).fwd,fun _=>h14.fwd,fun a b=>?_,fun a b=>?_,fun a=>?_,fun a=>?_,fun a=>?_,fun a=>?_,fun a=>?_,fun a=>?_⟩
 ·rw [upd_none]
  obtain ⟨e1,e2⟩:=h.s3 a.b (fun c=>b c.fwd)
  exact ⟨e1,e2.keep (fun i b hb=>hk b fun e=>hng i (e ▸ hb)) (by omega)⟩
 ·rw [upd_none]
  obtain ⟨e1,e3⟩:=h.s5 a.b (fun c=>b c.fwd)
  exact ⟨e1,OSl.keep e3 fun b hb=>hk b fun e=>hnf (e ▸ hb)⟩
 ·rw [upd_none]
  obtain ⟨e1,e2,e3⟩:=h.s9 a.b
  exact ⟨e1,e2.keep (fun i b hb=>hk b fun e=>hng i (e ▸ hb)) (by omega),OSl.keep e3 fun b hb=>hk b fun e=>hnf (e ▸ hb)⟩
 ·rw [upd_none];exact ⟨(h.s10 a.b).1.fwd,(h.s10 a.b).2⟩
 ·rw [upd_none];exact ⟨(h.s11 a.b).1.fwd,(h.s11 a.b).2⟩
 ·rw [upd_none];exact ⟨(h.s12 a.b).1.fwd,(h.s12 a.b).2⟩
 ·rw [upd_none]
  obtain ⟨g,xs,hb,h1,h2⟩:=h.s13 a.b
  exact ⟨g,xs,hb.turn (by omega) (hk g (hne g hb.blk)) hb.ng hb.nf,fun c=>h1 fun e=>c e.fwd,fun c=>⟨(h2 c.b).1.fwd,(h2 c.b).2⟩⟩
 ·rw [upd_none]
  exact ⟨g,_,⟨hp,⟨hr0,by omega⟩,hng,hnf,hnew⟩,fun c=>absurd self c,fun _=>⟨h12.fwd,rfl⟩⟩
end
end Go.Proofs.Ytinlmkhlgclbfab
