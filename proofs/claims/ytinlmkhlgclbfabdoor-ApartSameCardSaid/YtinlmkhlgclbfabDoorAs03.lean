/- OwnZ -/
import Derived.Test.YtinlmkhlgclbfabDoorAs02
namespace Go.Proofs.YtinlmkhlgclbfabDoor
open Go.RowKit
def ownsZ (w:World) (E:TypeId) (size:Nat) (v:Value) (n:Nat) (xs:List Value):Prop:=w.ownsRow 0 E size v n xs∨(n=0∧xs=[]∧∃a,v= .slice (some a) 0 0)
def rowZ:Value→Option Nat
 | .slice (some a) _ (_+1)=>some a.block
 |_=>none
theorem rowZ_own {v:Value}{b:Nat}(h:rowZ v=some b):v.ownBlock=some b:=by
 unfold rowZ at h
 split at h
 ·simpa [Value.ownBlock] using h
 ·cases h
theorem rowZ_pos {a:Addr}{n c:Nat}(h:0 < c):rowZ (.slice (some a) n c)=some a.block:=by
 obtain ⟨c',rfl⟩:∃c',c=c'+1:=⟨c - 1,by omega⟩
 rfl
theorem rowZ_zero {A:Option Addr}{n:Nat} :rowZ (.slice A n 0)=none:=by cases A<;>rfl
theorem ownsZ.of {w:World}{base:Nat}{E:TypeId}{size:Nat}{v:Value}{n:Nat}{xs:List Value}(h:w.ownsRow base E size v n xs):ownsZ w E size v n xs:= .inl (own_mono h (Nat.zero_le _))
theorem ownZ_form {w:World}{E:TypeId}{size:Nat}{v:Value}{n:Nat}{xs:List Value}(h:ownsZ w E size v n xs):
  ∃A c,v= .slice A n c∧n≤c∧c≤maxLen∧(A=none→c=0)∧xs.length=n*size∧((n=0∧c=0∧rowZ v=none)∨∃g,A=some ⟨g,0,none⟩∧0 < c∧rowZ v=some g∧g < w.heap.size∧CellsAt w g 0 xs∧w.ownsRow 0 E size v n xs):=by
 rcases h with h|⟨rfl,rfl,a,rfl⟩
 ·obtain ⟨A,c,rfl,h1,h2,h3,h4,h5⟩:=own_form h
  refine ⟨A,c,rfl,h1,h2,h3,h4,?_⟩
  rcases Nat.eq_zero_or_pos c with h0|h0
  ·exact .inl ⟨by omega,h0,by subst h0;exact rowZ_zero⟩
  ·rcases h5 with ⟨_,_,h5⟩|⟨g,rfl,_,h6,h7⟩
   ·omega
   ·exact .inr ⟨g,rfl,h0,rowZ_pos h0,h6,h7,h⟩
 ·exact ⟨some a,0,rfl,Nat.le_refl _,Nat.zero_le _,fun h=>(by cases h),by simp,.inl ⟨rfl,rfl,rowZ_zero⟩⟩
theorem ownZ_keep {w w':World}{E:TypeId}{size:Nat}{v:Value}{n:Nat}{xs:List Value}(h:ownsZ w E size v n xs)(hk:∀b,rowZ v=some b→w'.heap[b]?=w.heap[b]?):ownsZ w' E size v n xs:=by
 obtain ⟨A,c,rfl,h1,h2,h3,h4,h5⟩:=ownZ_form h
 rcases h5 with ⟨rfl,rfl,_⟩|⟨g,rfl,h0,hr,_,_,ho⟩
 ·have hx:xs=[]:=List.eq_nil_of_length_eq_zero (by simpa using h4)
  subst hx
  cases A with
  |none=>exact .inl ⟨by simp,.inl ⟨rfl,rfl⟩⟩
  |some a=>exact .inr ⟨rfl,rfl,a,rfl⟩
 ·exact .inl (own_keep ho fun b hb=>hk b (by rw [hr];exact hb))
theorem ownZ_lt {w:World}{E:TypeId}{size:Nat}{v:Value}{n:Nat}{xs:List Value}(h:ownsZ w E size v n xs):∀b,rowZ v=some b→b < w.heap.size:=by
 intro b hb
 obtain ⟨A,c,rfl,h1,h2,h3,h4,h5⟩:=ownZ_form h
 rcases h5 with ⟨rfl,rfl,h6⟩|⟨g,rfl,h0,hr,hg,_,ho⟩
 ·rw [h6] at hb;cases hb
 ·rw [hr] at hb;injection hb with hb;omega
theorem ownsZ.nil (w:World)(E:TypeId)(size:Nat):ownsZ w E size (.slice none 0 0) 0 []:= .inl ⟨by simp,.inl ⟨rfl,rfl⟩⟩
theorem ownZ_set {w:World}{E:TypeId}{size g:Nat}{n c:Nat}{xs:List Value}(h:ownsZ w E size (.slice (some ⟨g,0,none⟩) n c) n xs){j:Nat}(hj:j < xs.length)(u:Value):
  ownsZ (w.setCell ⟨g,j,none⟩ u) E size (.slice (some ⟨g,0,none⟩) n c) n (xs.set j u):=by
 rcases h with h|⟨_,rfl,_⟩
 ·obtain ⟨hl,h⟩:=h
  rcases h with ⟨hv,_⟩|⟨g',cap,cur,hv,hb,hg,hn,hm,hcs,ht⟩
  ·cases hv
  ·injection hv with e1 e2 e3
   injection e1 with e1;injection e1 with e1
   subst e1;subst e3
   have hjc:j < cur.size:=by
    have h1:xs.length≤cur.toList.length:=by rw [← ht,List.length_take];omega
    simpa using (by omega:j < cur.toList.length)
   refine .inl ⟨by simpa using hl,.inr ⟨g,c,cur.setIfInBounds j u,rfl,hb,heap_set_same hg,hn,hm,by simpa using hcs,?_⟩⟩
   rw [Array.toList_setIfInBounds,List.take_set,ht]
 ·simp at hj
def OZl {T:Type} (e:OCod T) (E:TypeId) (F:Nat→Prop) (w:World) (v:Value) (xs:List T):Prop:=
 ∃(ess:List (List Value)) (G:Nat→Nat→Prop),ess.length=xs.length∧ownsZ w E e.cod.size v xs.length ess.flatten∧(∀b,rowZ v=some b→F b)∧
  (∀i es x,ess[i]?=some es→xs[i]?=some x→e.rel (G i) w es x)∧(∀i b,G i b→F b∧rowZ v≠some b)∧(∀i j b,i≠j→G i b→¬ G j b)
theorem OZl.keep {T:Type}{e:OCod T}{E:TypeId}{F:Nat→Prop}{w w':World}{v:Value}{xs:List T}(h:OZl e E F w v xs)(hk:∀b,F b→w'.heap[b]?=w.heap[b]?):OZl e E F w' v xs:=by
 obtain ⟨ess,G,h1,h2,h3,h4,h5,h6⟩:=h
 exact ⟨ess,G,h1,ownZ_keep h2 fun b hb=>hk b (h3 b hb),h3,fun i es x hi hx=>e.keep (h4 i es x hi hx) fun b hb=>hk b (h5 i b hb).1,h5,h6⟩
theorem OZl.keepI {T:Type}{e:OCod T}{E:TypeId}{F:Nat→Prop}{w w':World}{v:Value}{xs:List T}(h:OZl e E F w v xs)(hk:KeepI F w w'):OZl e E F w' v xs:=h.keep hk
theorem OZl.mono {T:Type}{e:OCod T}{E:TypeId}{F G:Nat→Prop}{w:World}{v:Value}{xs:List T}(h:OZl e E F w v xs)(hk:∀b,F b→G b):OZl e E G w v xs:=by
 obtain ⟨ess,G',h1,h2,h3,h4,h5,h6⟩:=h
 exact ⟨ess,G',h1,h2,fun b hb=>hk b (h3 b hb),h4,fun i b hb=>⟨hk b (h5 i b hb).1,(h5 i b hb).2⟩,h6⟩
theorem OZl.nil {T:Type}(e:OCod T)(E:TypeId)(F:Nat→Prop)(w:World):OZl e E F w (.slice none 0 0) []:=
 ⟨[],fun _ _=>False,rfl,ownsZ.nil _ _ _,(fun b hb=>by cases hb),(fun i es x hi=>by simp at hi),fun _ _ h=>h.elim,fun _ _ _ _ h=>h.elim⟩
theorem OZl.form {T:Type}{e:OCod T}{E:TypeId}{F:Nat→Prop}{w:World}{v:Value}{xs:List T}(h:OZl e E F w v xs):∃A c,v= .slice A xs.length c:=by
 obtain ⟨ess,G,h1,h2,_⟩:=h
 obtain ⟨A,c,hv,_⟩:=ownZ_form h2
 exact ⟨A,c,hv⟩
theorem OZl.read {T:Type}{e:OCod T}{E:TypeId}{F:Nat→Prop}{w:World}{A:Option Addr}{n c:Nat}{xs:List T}(h:OZl e E F w (.slice A n c) xs):Sl e.cod F w A c xs:=by
 obtain ⟨ess,G,h1,h2,h3,h4,h5,h6⟩:=h
 have hlen:=ess_len h1 h4
 obtain ⟨A',c',hv,hn,hm,hnil,_,hcase⟩:=ownZ_form h2
 injection hv with e1 e2 e3
 subst e1;subst e3
 refine ⟨hn,hm,hnil,fun i hi=>?_⟩
 rcases hcase with ⟨h0,_,_⟩|⟨g,rfl,_,hr,_,hc,_⟩
 ·omega
 ·have hi':i < ess.length:=by omega
  refine ⟨g,0,ess[i],rfl,h3 g hr,e.cod.mono (e.toRead (h4 i ess[i] xs[i] (List.getElem?_eq_getElem hi') (List.getElem?_eq_getElem hi))) fun b hb=>(h5 i b hb).1,fun j u hu=>?_⟩
  have:=hc (i*e.cod.size+j) u (flatten_slot ess i ess[i] hlen (List.getElem?_eq_getElem hi') j u hu)
  rwa [show 0+i*e.cod.size+j=0+(i*e.cod.size+j) by omega]
def OCod.sliceZ {T:Type} (E:TypeId) (e:OCod T):OCod (List T) where
 cod:=e.cod.slice
 rel:=fun F w cs xs=>∃v,cs=[v]∧OZl e E F w v xs
 toRead:=fun {F w cs x} ⟨v,h,hs⟩=>by
  obtain ⟨A,c,rfl⟩:=hs.form
  exact ⟨A,c,h,hs.read⟩
 keep:=fun ⟨v,h,hs⟩ hk=>⟨v,h,hs.keep hk⟩
 mono:=fun ⟨v,h,hs⟩ hk=>⟨v,h,hs.mono hk⟩
theorem ozl_flat {T:Type}{k:Nat}{f:T→List Value}{hf:∀x,(f x).length=k}{E:TypeId}{F:Nat→Prop}{w:World}{v:Value}{xs:List T} :
  OZl (OCod.flat k f hf) E F w v xs↔ownsZ w E k v xs.length (xs.flatMap f)∧∀b,rowZ v=some b→F b:=by
 constructor
 ·rintro ⟨ess,G,h1,h2,h3,h4,_⟩
  have:ess=xs.map f:=by
   refine List.ext_getElem? fun i=>?_
   rcases Nat.lt_or_ge i xs.length with hi|hi
   ·have hi':i < ess.length:=by omega
    have:=h4 i ess[i] xs[i] (List.getElem?_eq_getElem hi') (List.getElem?_eq_getElem hi)
    rw [List.getElem?_eq_getElem hi',List.getElem?_map,List.getElem?_eq_getElem hi]
    exact congrArg some this
   ·rw [List.getElem?_eq_none (by omega),List.getElem?_eq_none (by simpa using hi)]
  subst this
  rw [List.flatMap]
  exact ⟨h2,h3⟩
 ·rintro ⟨h2,h3⟩
  refine ⟨xs.map f,fun _ _=>False,by simp,by rw [← List.flatMap];exact h2,h3,fun i es x hi hx=>?_,fun _ _ h=>h.elim,fun _ _ _ _ h=>h.elim⟩
  rw [List.getElem?_map,hx] at hi
  simp at hi
  exact hi.symm
theorem ozl_app {T:Type}{e:OCod T}{E:TypeId}{F Fx F':Nat→Prop}{w w':World}{v v':Value}{xs:List T}{x:T}{ess:List (List Value)}{G:Nat→Nat→Prop}{es:List Value}
  (h1:ess.length=xs.length) (h4:∀i es x,ess[i]?=some es→xs[i]?=some x→e.rel (G i) w es x) (h5:∀i b,G i b→F b∧rowZ v≠some b) (h6:∀i j b,i≠j→G i b→¬ G j b)
  (hx:e.rel Fx w es x) (hd:∀b,F b→¬ Fx b) (hlt:∀b,F b∨Fx b→b < w.heap.size) (h3:∀b,rowZ v=some b→F b)
  (hown:ownsZ w' E e.cod.size v' (xs.length+1) (ess.flatten++es)) (hg:w.grownBy w' (rowZ v)) (hat:∀b,rowZ v'=some b→rowZ v=some b∨b=w.heap.size)
  (hF:∀b,F b∨Fx b→F' b) (hF':∀b,rowZ v'=some b→F' b):OZl e E F' w' v' (xs++[x]):=by
 have hne:∀b,F b∨Fx b→rowZ v≠some b→rowZ v'≠some b:=by
  intro b hb hv e1
  rcases hat b e1 with e1|e1
  ·exact hv e1
  ·have:=hlt b hb;omega
 have hxv:∀b,Fx b→rowZ v≠some b:=fun b hb e1=>hd b (h3 b e1) hb
 refine ⟨ess++[es],fun i=>if i=xs.length then Fx else if i < xs.length then G i else fun _=>False,by simp [h1],by simpa using hown,hF',fun i es' x' hi hx'=>?_,fun i b hb=>?_,fun i j b hij hi hj=>?_⟩
 ·dsimp only
  by_cases e1:i=xs.length
  ·subst e1
   rw [if_pos rfl]
   rw [← h1,List.getElem?_append_right (Nat.le_refl _)] at hi
   rw [List.getElem?_append_right (Nat.le_refl _)] at hx'
   simp at hi hx'
   subst hi;subst hx'
   exact e.keep hx fun b hb=>hg.block b (hlt b (.inr hb)) (Ne.symm (hxv b hb))
  ·have hi':i < xs.length:=by have:=(List.getElem?_eq_some_iff.1 hx').1;simp at this;omega
   rw [if_neg e1,if_pos hi']
   rw [List.getElem?_append_left (by omega)] at hi hx'
   exact e.keep (h4 i es' x' hi hx') fun b hb=>hg.block b (hlt b (.inl (h5 i b hb).1)) (Ne.symm (h5 i b hb).2)
 ·dsimp only at hb
  by_cases e1:i=xs.length
  ·rw [if_pos e1] at hb
   exact ⟨hF b (.inr hb),hne b (.inr hb) (hxv b hb)⟩
  ·rw [if_neg e1] at hb
   split at hb
   ·exact ⟨hF b (.inl (h5 i b hb).1),hne b (.inl (h5 i b hb).1) (h5 i b hb).2⟩
   ·exact hb.elim
 ·dsimp only at hi hj
  by_cases e1:i=xs.length
  ·rw [if_pos e1] at hi
   rw [if_neg (by omega)] at hj
   split at hj
   ·exact hd b (h5 j b hj).1 hi
   ·exact hj.elim
  ·rw [if_neg e1] at hi
   split at hi
   ·by_cases e2:j=xs.length
    ·rw [if_pos e2] at hj
     exact hd b (h5 i b hi).1 hj
    ·rw [if_neg e2] at hj
     split at hj
     ·exact h6 i j b hij hi hj
     ·exact hj.elim
   ·exact hi.elim
theorem ozl_elem {T:Type}[Inhabited T]{e:OCod T}{E:TypeId}{F:Nat→Prop}{w:World}{v:Value}{xs:List T}(h:OZl e E F w v xs){i:Nat}(hi:i < xs.length):
  ∃g c es Gi,v= .slice (some ⟨g,0,none⟩) xs.length c∧F g∧e.rel Gi w es (nth xs i)∧CellsAt w g (i*e.cod.size) es∧(∀b,Gi b→F b∧b≠g)∧
   (∀w' x',e.rel Gi w' es x'→(∀b,F b→¬ Gi b→w'.heap[b]?=w.heap[b]?)→OZl e E F w' v (xs.set i x')):=by
 obtain ⟨ess,G,h1,h2,h3,h4,h5,h6⟩:=h
 have hlen:=ess_len h1 h4
 have hi':i < ess.length:=by omega
 obtain ⟨A',c',hv,hn,hm,hnil,_,hcase⟩:=ownZ_form h2
 rcases hcase with ⟨h0,_,_⟩|⟨g,rfl,_,hr,_,hc,_⟩
 ·omega
 ·subst hv
  refine ⟨g,c',ess[i],G i,rfl,h3 g hr,by rw [nth_eq hi];exact h4 i ess[i] xs[i] (List.getElem?_eq_getElem hi') (List.getElem?_eq_getElem hi),fun j u hu=>?_,fun b hb=>⟨(h5 i b hb).1,fun e1=>(h5 i b hb).2 (by rw [e1];exact hr)⟩,fun w' x' hx' hk=>?_⟩
  ·have:=hc (i*e.cod.size+j) u (flatten_slot ess i ess[i] hlen (List.getElem?_eq_getElem hi') j u hu)
   rwa [show i*e.cod.size+j=0+(i*e.cod.size+j) by omega]
  ·refine ⟨ess,G,by simpa using h1,?_,h3,fun j es x hj hx=>?_,h5,h6⟩
   ·rw [List.length_set]
    exact ownZ_keep h2 fun b hb=>hk b (h3 b hb) fun hG=>(h5 i b hG).2 hb
   ·by_cases e1:i=j
    ·subst e1
     rw [List.getElem?_set_self hi] at hx
     rw [List.getElem?_eq_getElem hi'] at hj
     injection hx with hx;injection hj with hj
     subst hx;subst hj
     exact hx'
    ·rw [List.getElem?_set_ne e1] at hx
     exact e.keep (h4 j es x hj hx) fun b hb=>hk b (h5 j b hb).1 fun hG=>h6 j i b (Ne.symm e1) hb hG
theorem flatten_set {α:Type}{k:Nat} :∀(ess:List (List α)) (i:Nat) (es:List α) (j:Nat) (u:α),(∀e∈ess,e.length=k)→ess[i]?=some es→j < k→ess.flatten.set (i*k+j) u=(ess.set i (es.set j u)).flatten:=by
 intro ess
 induction ess with
 |nil=>intro i es j u _ h;simp at h
 |cons a l ih=>
  intro i es j u hk hi hj
  have ha:=hk a (by simp)
  cases i with
  |zero=>
   simp at hi;subst hi
   rw [List.set_cons_zero,List.flatten_cons,List.flatten_cons,Nat.zero_mul,Nat.zero_add,List.set_append_left _ _ (by omega)]
  |succ i=>
   rw [List.set_cons_succ,List.flatten_cons,List.flatten_cons,List.set_append_right _ _ (by rw [ha,Nat.add_mul];omega),ha]
   rw [show (i+1)*k+j - k=i*k+j by rw [Nat.add_mul];omega]
   rw [ih i es j u (fun e he=>hk e (by simp [he])) (by simpa using hi) hj]
theorem flatMap_set {T:Type}[Inhabited T]{k:Nat}{f:T→List Value}(hf:∀x,(f x).length=k)(xs:List T)(i j:Nat)(u:Value)(x':T)(hi:i < xs.length)(hj:j < k)(hx:f x'=(f (nth xs i)).set j u):
  (xs.flatMap f).set (i*k+j) u=(xs.set i x').flatMap f:=by
 rw [List.flatMap,List.flatMap,flatten_set (k:=k) (xs.map f) i (f (nth xs i)) j u (by intro e he;obtain ⟨x,_,rfl⟩:=List.mem_map.1 he;exact hf x) (by rw [List.getElem?_map,List.getElem?_eq_getElem hi,nth_eq hi];rfl) hj,← hx,List.map_set]
theorem ozl_put {T:Type}[Inhabited T]{e:OCod T}{E:TypeId}{F:Nat→Prop}{w:World}{v:Value}{xs:List T}(h:OZl e E F w v xs){i:Nat}(hi:i < xs.length):
  ∃g c es Gi,v= .slice (some ⟨g,0,none⟩) xs.length c∧F g∧g < w.heap.size∧e.rel Gi w es (nth xs i)∧CellsAt w g (i*e.cod.size) es∧(∀b,Gi b→F b∧b≠g)∧
   ∃all:List Value,ownsZ w E e.cod.size v xs.length all∧(∀j,j < e.cod.size→i*e.cod.size+j < all.length)∧
   (∀w' es' x' (Gx F':Nat→Prop),es'.length=e.cod.size→(∀all',(∀q,q < all.length→(q < i*e.cod.size∨i*e.cod.size+e.cod.size≤q)→all'[q]?=all[q]?)→(∀j,j < e.cod.size→all'[i*e.cod.size+j]?=es'[j]?)→all'.length=all.length→ownsZ w' E e.cod.size v xs.length all')→
    e.rel Gx w' es' x'→(∀b,F b→¬ Gi b→b≠g→w'.heap[b]?=w.heap[b]?)→(∀b,F b→F' b)→(∀b,Gx b→F' b∧b≠g)→(∀b,Gx b→F b→Gi b)→OZl e E F' w' v (xs.set i x')):=by
 obtain ⟨ess,G,h1,h2,h3,h4,h5,h6⟩:=h
 have hlen:=ess_len h1 h4
 have hi':i < ess.length:=by omega
 obtain ⟨A',c',hv,hn,hm,hnil,hal,hcase⟩:=ownZ_form h2
 rcases hcase with ⟨h0,_,_⟩|⟨g,rfl,_,hr,hg,hc,_⟩
 ·omega
 ·subst hv
  refine ⟨g,c',ess[i],G i,rfl,h3 g hr,hg,by rw [nth_eq hi];exact h4 i ess[i] xs[i] (List.getElem?_eq_getElem hi') (List.getElem?_eq_getElem hi),fun j u hu=>?_,fun b hb=>⟨(h5 i b hb).1,fun e1=>(h5 i b hb).2 (by rw [e1];exact hr)⟩,ess.flatten,h2,fun j hj=>?_,fun w' es' x' Gx F' hes hall hx' hk hF hGx hGF=>?_⟩
  ·have:=hc (i*e.cod.size+j) u (flatten_slot ess i ess[i] hlen (List.getElem?_eq_getElem hi') j u hu)
   rwa [show i*e.cod.size+j=0+(i*e.cod.size+j) by omega]
  ·rw [hal]
   have:i*e.cod.size+e.cod.size≤xs.length*e.cod.size:=by rw [← Nat.succ_mul];exact Nat.mul_le_mul_right _ hi
   omega
  ·have hlen2:∀a∈ess.set i es',a.length=e.cod.size:=fun a ha=>by
    rcases List.mem_or_eq_of_mem_set ha with h|rfl
    ·exact hlen a h
    ·exact hes
   have hflat:∀(l:List (List Value)),(∀a∈l,a.length=e.cod.size)→l.flatten.length=l.length*e.cod.size:=by
    intro l
    induction l with
    |nil=>intro _;simp
    |cons a l ih=>intro h;rw [List.flatten_cons,List.length_append,ih fun a ha=>h a (by simp [ha]),h a (by simp),List.length_cons,Nat.add_mul];omega
   refine ⟨ess.set i es',fun j=>if j=i then Gx else G j,by simp [h1],?_,fun b hb=>hF b (h3 b hb),fun j es x hj hx=>?_,fun j b hb=>?_,fun j k b hjk hj hk=>?_⟩
   ·rw [List.length_set]
    refine hall _ (fun q hq hne=>?_) (fun j hj=>?_) (by rw [hflat _ hlen2,hflat _ hlen,List.length_set])
    ·have hs0:0 < e.cod.size:=by
      rcases Nat.eq_zero_or_pos e.cod.size with h0|h0
      ·rw [hflat _ hlen,h0] at hq;simp at hq
      ·exact h0
     have hqi:q / e.cod.size < ess.length:=by rw [hflat _ hlen] at hq;exact Nat.div_lt_of_lt_mul (by rw [Nat.mul_comm];exact hq)
     have hqr:=Nat.mod_lt q hs0
     have hdm:q / e.cod.size*e.cod.size+q % e.cod.size=q:=by rw [Nat.mul_comm];exact Nat.div_add_mod q _
     have hqne:q / e.cod.size≠i:=by
      intro e1
      rw [e1] at hdm
      omega
     have hx1:q % e.cod.size < (ess[q / e.cod.size]).length:=by rw [hlen _ (List.getElem_mem hqi)];exact hqr
     have t1:=flatten_slot (ess.set i es') (q / e.cod.size) ess[q / e.cod.size] hlen2 (by rw [List.getElem?_set_ne (Ne.symm hqne),List.getElem?_eq_getElem hqi]) (q % e.cod.size) _ (List.getElem?_eq_getElem hx1)
     have t2:=flatten_slot ess (q / e.cod.size) ess[q / e.cod.size] hlen (List.getElem?_eq_getElem hqi) (q % e.cod.size) _ (List.getElem?_eq_getElem hx1)
     rw [hdm] at t1 t2
     rw [t1,t2]
    ·have hx1:j < es'.length:=by omega
     rw [List.getElem?_eq_getElem hx1]
     exact flatten_slot (ess.set i es') i es' hlen2 (by rw [List.getElem?_set_self hi']) j _ (List.getElem?_eq_getElem hx1)
   ·dsimp only
    by_cases e1:j=i
    ·subst e1
     rw [if_pos rfl]
     rw [List.getElem?_set_self hi'] at hj
     rw [List.getElem?_set_self hi] at hx
     injection hj with hj;injection hx with hx
     subst hj;subst hx
     exact hx'
    ·rw [if_neg e1]
     rw [List.getElem?_set_ne (Ne.symm e1)] at hj hx
     exact e.keep (h4 j es x hj hx) fun b hb=>hk b (h5 j b hb).1 (fun hG=>h6 j i b e1 hb hG) fun e2=>(h5 j b hb).2 (by rw [e2];exact hr)
   ·dsimp only at hb
    by_cases e1:j=i
    ·rw [if_pos e1] at hb
     exact ⟨(hGx b hb).1,fun e2=>(hGx b hb).2 (by rw [hr] at e2;injection e2 with e2;exact e2.symm)⟩
    ·rw [if_neg e1] at hb
     exact ⟨hF b (h5 j b hb).1,(h5 j b hb).2⟩
   ·dsimp only at hj hk
    by_cases e1:j=i
    ·rw [if_pos e1] at hj
     rw [if_neg (by omega)] at hk
     exact h6 k i b (by omega) hk (hGF b hj (h5 k b hk).1)
    ·rw [if_neg e1] at hj
     by_cases e2:k=i
     ·rw [if_pos e2] at hk
      exact h6 j i b e1 hj (hGF b hk (h5 j b hj).1)
     ·rw [if_neg e2] at hk
      exact h6 j k b hjk hj hk
theorem ozl_step {T:Type}{e:OCod T}{E:TypeId}{F Fx F':Nat→Prop}{w0 w w' w'':World}{v v':Value}{xs:List T}{x:T}{ess:List (List Value)}{G:Nat→Nat→Prop}{es:List Value}
  (h1:ess.length=xs.length) (h4:∀i es x,ess[i]?=some es→xs[i]?=some x→e.rel (G i) w0 es x) (h5:∀i b,G i b→F b∧rowZ v≠some b) (h6:∀i j b,i≠j→G i b→¬ G j b)
  (h3:∀b,rowZ v=some b→F b) (hg:w.grownBy w' (rowZ v)) (hat:∀b,rowZ v'=some b→rowZ v=some b∨b=w.heap.size) (hown:ownsZ w' E e.cod.size v' (xs.length+1) (ess.flatten++es))
  (hx:e.rel Fx w es x) (hk:KeepI F w0 w) (hd:∀b,F b→¬ Fx b) (hlt:∀b,F b∨Fx b→b < w.heap.size)
  (hF:∀b,F b∨Fx b→F' b) (hF':∀b,b=w.heap.size→b < w'.heap.size→F' b) (hk2:KeepI F' w' w''):OZl e E F' w'' v' (xs++[x]):=
 (ozl_app h1 (fun i es x hi hx=>e.keep (h4 i es x hi hx) fun b hb=>hk b (h5 i b hb).1) h5 h6 hx hd hlt h3 hown hg hat hF (fun b hb=>by
  rcases hat b hb with e1|e1
  ·exact hF b (.inl (h3 b e1))
  ·exact hF' b e1 (ownZ_lt hown b hb))).keep hk2
end Go.Proofs.YtinlmkhlgclbfabDoor
