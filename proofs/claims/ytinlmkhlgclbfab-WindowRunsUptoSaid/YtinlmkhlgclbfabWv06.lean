/- OwnC to CacheB -/
import Derived.Test.YtinlmkhlgclbfabWv04
import Derived.Test.YtinlmkhlgclbfabWv05
import Derived.Laws.CopyOwn
namespace Go.Proofs.Ytinlmkhlgclbfab
open Go.RowKit
section
structure OCod (T:Type) where
 cod:Cod T
 rel:(Nat→Prop)→World→List Value→T→Prop
 toRead:∀ {F w cs x},rel F w cs x→cod.rel F w cs x
 keep:∀ {F w w' cs x},rel F w cs x→(∀b,F b→w'.heap[b]?=w.heap[b]?)→rel F w' cs x
 mono:∀ {F G w cs x},rel F w cs x→(∀b,F b→G b)→rel G w cs x
def OCod.flat {T:Type} (k:Nat) (f:T→List Value) (h:∀x,(f x).length=k):OCod T where
 cod:=Cod.flat k f h
 rel:=fun _ _ cs x=>cs=f x
 toRead:=fun h=>h
 keep:=fun h _=>h
 mono:=fun h _=>h
def OSl {T:Type} (e:OCod T) (E:TypeId) (F:Nat→Prop) (w:World) (v:Value) (xs:List T):Prop:=
 ∃(ess:List (List Value)) (G:Nat→Nat→Prop),ess.length=xs.length∧w.ownsRow 0 E e.cod.size v xs.length ess.flatten∧(∀b,v.ownBlock=some b→F b)∧
  (∀i es x,ess[i]?=some es→xs[i]?=some x→e.rel (G i) w es x)∧(∀i b,G i b→F b∧v.ownBlock≠some b)∧(∀i j b,i≠j→G i b→¬ G j b)
theorem flatten_slot {T:Type}{k:Nat} :∀(ess:List (List T)) (i:Nat) (es:List T),(∀e∈ess,e.length=k)→ess[i]?=some es→∀j u,es[j]?=some u→ess.flatten[i*k+j]?=some u:=by
 intro ess
 induction ess with
 |nil=>intro i es _ h;simp at h
 |cons a l ih=>
  intro i es hk hi j u hu
  cases i with
  |zero=>
   simp at hi;subst hi
   rw [List.flatten_cons,Nat.zero_mul,Nat.zero_add,List.getElem?_append_left (by have:=(List.getElem?_eq_some_iff.1 hu).1;exact this)]
   exact hu
  |succ i=>
   have ha:=hk a (by simp)
   rw [List.flatten_cons,List.getElem?_append_right (by rw [ha,Nat.add_mul];omega),ha]
   rw [show (i+1)*k+j - k=i*k+j by rw [Nat.add_mul];omega]
   exact ih i es (fun e he=>hk e (by simp [he])) (by simpa using hi) j u hu
theorem OSl.keep {T:Type}{e:OCod T}{E:TypeId}{F:Nat→Prop}{w w':World}{v:Value}{xs:List T}(h:OSl e E F w v xs)(hk:∀b,F b→w'.heap[b]?=w.heap[b]?):OSl e E F w' v xs:=by
 obtain ⟨ess,G,h1,h2,h3,h4,h5,h6⟩:=h
 exact ⟨ess,G,h1,own_keep h2 fun b hb=>hk b (h3 b hb),h3,fun i es x hi hx=>e.keep (h4 i es x hi hx) fun b hb=>hk b (h5 i b hb).1,h5,h6⟩
theorem OSl.keepI {T:Type}{e:OCod T}{E:TypeId}{F:Nat→Prop}{w w':World}{v:Value}{xs:List T}(h:OSl e E F w v xs)(hk:KeepI F w w'):OSl e E F w' v xs:=h.keep hk
theorem OSl.mono {T:Type}{e:OCod T}{E:TypeId}{F G:Nat→Prop}{w:World}{v:Value}{xs:List T}(h:OSl e E F w v xs)(hk:∀b,F b→G b):OSl e E G w v xs:=by
 obtain ⟨ess,G',h1,h2,h3,h4,h5,h6⟩:=h
 exact ⟨ess,G',h1,h2,fun b hb=>hk b (h3 b hb),h4,fun i b hb=>⟨hk b (h5 i b hb).1,(h5 i b hb).2⟩,h6⟩
theorem OSl.nil {T:Type}(e:OCod T)(E:TypeId)(F:Nat→Prop)(w:World):OSl e E F w (.slice none 0 0) []:=
 ⟨[],fun _ _=>False,rfl,⟨by simp,.inl ⟨rfl,rfl⟩⟩,(fun b hb=>by cases hb),(fun i es x hi=>by simp at hi),fun _ _ h=>h.elim,fun _ _ _ _ h=>h.elim⟩
theorem OSl.form {T:Type}{e:OCod T}{E:TypeId}{F:Nat→Prop}{w:World}{v:Value}{xs:List T}(h:OSl e E F w v xs):∃A c,v= .slice A xs.length c:=by
 obtain ⟨ess,G,h1,h2,_⟩:=h
 obtain ⟨A,c,hv,_⟩:=own_form h2
 exact ⟨A,c,hv⟩
theorem ess_len {T:Type}{e:OCod T}{F:Nat→Nat→Prop}{w:World}{xs:List T}{ess:List (List Value)}(h1:ess.length=xs.length)(h4:∀i es x,ess[i]?=some es→xs[i]?=some x→e.rel (F i) w es x):∀es∈ess,es.length=e.cod.size:=by
 intro es hes
 obtain ⟨i,hi,rfl⟩:=List.getElem_of_mem hes
 exact e.cod.len (e.toRead (h4 i ess[i] xs[i] (List.getElem?_eq_getElem hi) (List.getElem?_eq_getElem (by omega))))
theorem OSl.read {T:Type}{e:OCod T}{E:TypeId}{F:Nat→Prop}{w:World}{A:Option Addr}{n c:Nat}{xs:List T}(h:OSl e E F w (.slice A n c) xs):Sl e.cod F w A c xs:=by
 obtain ⟨ess,G,h1,h2,h3,h4,h5,h6⟩:=h
 have hlen:=ess_len h1 h4
 obtain ⟨A',c',hv,hn,hm,hnil,_,hcase⟩:=own_form h2
 injection hv with e1 e2 e3
 subst e1;subst e3
 refine ⟨hn,hm,hnil,fun i hi=>?_⟩
 rcases hcase with ⟨_,h0,_⟩|⟨g,rfl,_,_,hc⟩
 ·omega
 ·have hi':i < ess.length:=by omega
  refine ⟨g,0,ess[i],rfl,h3 g rfl,e.cod.mono (e.toRead (h4 i ess[i] xs[i] (List.getElem?_eq_getElem hi') (List.getElem?_eq_getElem hi))) fun b hb=>(h5 i b hb).1,fun j u hu=>?_⟩
  have:=hc (i*e.cod.size+j) u (flatten_slot ess i ess[i] hlen (List.getElem?_eq_getElem hi') j u hu)
  rwa [show 0+i*e.cod.size+j=0+(i*e.cod.size+j) by omega]
def OCod.slice {T:Type} (E:TypeId) (e:OCod T):OCod (List T) where
 cod:=e.cod.slice
 rel:=fun F w cs xs=>∃v,cs=[v]∧OSl e E F w v xs
 toRead:=fun {F w cs x} ⟨v,h,hs⟩=>by
  obtain ⟨A,c,rfl⟩:=hs.form
  exact ⟨A,c,h,hs.read⟩
 keep:=fun ⟨v,h,hs⟩ hk=>⟨v,h,hs.keep hk⟩
 mono:=fun ⟨v,h,hs⟩ hk=>⟨v,h,hs.mono hk⟩
theorem osl_flat {T:Type}{k:Nat}{f:T→List Value}{hf:∀x,(f x).length=k}{E:TypeId}{F:Nat→Prop}{w:World}{v:Value}{xs:List T} :
  OSl (OCod.flat k f hf) E F w v xs↔w.ownsRow 0 E k v xs.length (xs.flatMap f)∧∀b,v.ownBlock=some b→F b:=by
 constructor
 ·rintro ⟨ess,G,h1,h2,h3,h4,_⟩
  have:ess=xs.map f:=by
   refine List.ext_getElem? fun i=>?_
   rcases Nat.lt_or_ge i xs.length with hi|hi
   ·have hi':i < ess.length:=by omega
    have:=h4 i ess[i] xs[i] (List.getElem?_eq_getElem hi') (List.getElem?_eq_getElem hi)
    rw [List.getElem?_eq_getElem hi',List.getElem?_map,List.getElem?_eq_getElem hi]
    exact congrArg some this
   ·rw [List.getElem?_eq_none (by omega),List.getElem?_eq_none (by simpa using hi)]
  subst this
  rw [List.flatMap]
  exact ⟨h2,h3⟩
 ·rintro ⟨h2,h3⟩
  refine ⟨xs.map f,fun _ _=>False,by simp,by rw [← List.flatMap];exact h2,h3,fun i es x hi hx=>?_,fun _ _ h=>h.elim,fun _ _ _ _ h=>h.elim⟩
  rw [List.getElem?_map,hx] at hi
  simp at hi
  exact hi.symm
theorem osl_app {T:Type}{e:OCod T}{E:TypeId}{F Fx F':Nat→Prop}{w w':World}{v v':Value}{xs:List T}{x:T}{ess:List (List Value)}{G:Nat→Nat→Prop}{es:List Value}
  (h1:ess.length=xs.length) (h4:∀i es x,ess[i]?=some es→xs[i]?=some x→e.rel (G i) w es x) (h5:∀i b,G i b→F b∧v.ownBlock≠some b) (h6:∀i j b,i≠j→G i b→¬ G j b)
  (hx:e.rel Fx w es x) (hd:∀b,F b→¬ Fx b) (hlt:∀b,F b∨Fx b→b < w.heap.size) (h3:∀b,v.ownBlock=some b→F b)
  (hown:w'.ownsRow 0 E e.cod.size v' (xs.length+1) (ess.flatten++es)) (hg:w.grownBy w' v.ownBlock) (hat:v'.ownBlock=v.ownBlock∨v'.ownBlock=some w.heap.size)
  (hF:∀b,F b∨Fx b→F' b) (hF':∀b,v'.ownBlock=some b→F' b):OSl e E F' w' v' (xs++[x]):=by
 have hne:∀b,F b∨Fx b→v.ownBlock≠some b→v'.ownBlock≠some b:=by
  intro b hb hv
  rcases hat with e1|e1
  ·rw [e1];exact hv
  ·rw [e1];intro e2;injection e2 with e2;have:=hlt b hb;omega
 have hxv:∀b,Fx b→v.ownBlock≠some b:=fun b hb e1=>hd b (h3 b e1) hb
 refine ⟨ess++[es],fun i=>if i=xs.length then Fx else if i < xs.length then G i else fun _=>False,by simp [h1],by simpa using hown,hF',fun i es' x' hi hx'=>?_,fun i b hb=>?_,fun i j b hij hi hj=>?_⟩
 ·dsimp only
  by_cases e1:i=xs.length
  ·subst e1
   rw [if_pos rfl]
   rw [← h1,List.getElem?_append_right (Nat.le_refl _)] at hi
   rw [List.getElem?_append_right (Nat.le_refl _)] at hx'
   simp at hi hx'
   subst hi;subst hx'
   exact e.keep hx fun b hb=>hg.block b (hlt b (.inr hb)) (Ne.symm (hxv b hb))
  ·have hi':i < xs.length:=by have:=(List.getElem?_eq_some_iff.1 hx').1;simp at this;omega
   rw [if_neg e1,if_pos hi']
   rw [List.getElem?_append_left (by omega)] at hi hx'
   exact e.keep (h4 i es' x' hi hx') fun b hb=>hg.block b (hlt b (.inl (h5 i b hb).1)) (Ne.symm (h5 i b hb).2)
 ·dsimp only at hb
  by_cases e1:i=xs.length
  ·rw [if_pos e1] at hb
   exact ⟨hF b (.inr hb),hne b (.inr hb) (hxv b hb)⟩
  ·rw [if_neg e1] at hb
   split at hb
   ·exact ⟨hF b (.inl (h5 i b hb).1),hne b (.inl (h5 i b hb).1) (h5 i b hb).2⟩
   ·exact hb.elim
 ·dsimp only at hi hj
  by_cases e1:i=xs.length
  ·rw [if_pos e1] at hi
   rw [if_neg (by omega)] at hj
   split at hj
   ·exact hd b (h5 j b hj).1 hi
   ·exact hj.elim
  ·rw [if_neg e1] at hi
   split at hi
   ·by_cases e2:j=xs.length
    ·rw [if_pos e2] at hj
     exact hd b (h5 i b hi).1 hj
    ·rw [if_neg e2] at hj
     split at hj
     ·exact h6 i j b hij hi hj
     ·exact hj.elim
   ·exact hi.elim
theorem osl_elem {T:Type}[Inhabited T]{e:OCod T}{E:TypeId}{F:Nat→Prop}{w:World}{v:Value}{xs:List T}(h:OSl e E F w v xs){i:Nat}(hi:i < xs.length):
  ∃g c es Gi,v= .slice (some ⟨g,0,none⟩) xs.length c∧F g∧e.rel Gi w es (nth xs i)∧CellsAt w g (i*e.cod.size) es∧(∀b,Gi b→F b∧b≠g)∧
   (∀w' x',e.rel Gi w' es x'→(∀b,F b→¬ Gi b→w'.heap[b]?=w.heap[b]?)→OSl e E F w' v (xs.set i x')):=by
 obtain ⟨ess,G,h1,h2,h3,h4,h5,h6⟩:=h
 have hlen:=ess_len h1 h4
 have hi':i < ess.length:=by omega
 obtain ⟨A',c',hv,hn,hm,hnil,_,hcase⟩:=own_form h2
 rcases hcase with ⟨_,h0,_⟩|⟨g,rfl,_,_,hc⟩
 ·omega
 ·subst hv
  refine ⟨g,c',ess[i],G i,rfl,h3 g rfl,by rw [nth_eq hi];exact h4 i ess[i] xs[i] (List.getElem?_eq_getElem hi') (List.getElem?_eq_getElem hi),fun j u hu=>?_,fun b hb=>⟨(h5 i b hb).1,fun e1=>(h5 i b hb).2 (by rw [e1];rfl)⟩,fun w' x' hx' hk=>?_⟩
  ·have:=hc (i*e.cod.size+j) u (flatten_slot ess i ess[i] hlen (List.getElem?_eq_getElem hi') j u hu)
   rwa [show i*e.cod.size+j=0+(i*e.cod.size+j) by omega]
  ·refine ⟨ess,G,by simpa using h1,?_,h3,fun j es x hj hx=>?_,h5,h6⟩
   ·rw [List.length_set]
    exact own_keep h2 fun b hb=>hk b (h3 b hb) fun hG=>(h5 i b hG).2 hb
   ·by_cases e1:i=j
    ·subst e1
     rw [List.getElem?_set_self hi] at hx
     rw [List.getElem?_eq_getElem hi'] at hj
     injection hx with hx;injection hj with hj
     subst hx;subst hj
     exact hx'
    ·rw [List.getElem?_set_ne e1] at hx
     exact e.keep (h4 j es x hj hx) fun b hb=>hk b (h5 j b hb).1 fun hG=>h6 j i b (Ne.symm e1) hb hG
theorem osl_step {T:Type}{e:OCod T}{E:TypeId}{F Fx F':Nat→Prop}{w0 w w' w'':World}{v v':Value}{xs:List T}{x:T}{ess:List (List Value)}{G:Nat→Nat→Prop}{es:List Value}
  (h1:ess.length=xs.length) (h4:∀i es x,ess[i]?=some es→xs[i]?=some x→e.rel (G i) w0 es x) (h5:∀i b,G i b→F b∧v.ownBlock≠some b) (h6:∀i j b,i≠j→G i b→¬ G j b)
  (h3:∀b,v.ownBlock=some b→F b) (hg:w.grownBy w' v.ownBlock) (hat:v'.ownBlock=v.ownBlock∨v'.ownBlock=some w.heap.size) (hown:w'.ownsRow 0 E e.cod.size v' (xs.length+1) (ess.flatten++es))
  (hx:e.rel Fx w es x) (hk:KeepI F w0 w) (hd:∀b,F b→¬ Fx b) (hlt:∀b,F b∨Fx b→b < w.heap.size)
  (hF:∀b,F b∨Fx b→F' b) (hF':∀b,b=w.heap.size→b < w'.heap.size→F' b) (hk2:KeepI F' w' w''):OSl e E F' w'' v' (xs++[x]):=
 (osl_app h1 (fun i es x hi hx=>e.keep (h4 i es x hi hx) fun b hb=>hk b (h5 i b hb).1) h5 h6 hx hd hlt h3 hown hg hat hF (fun b hb=>by
  rcases hat with e1|e1
  ·exact hF b (.inl (h3 b (e1.symm.trans hb)))
  ·have hl:=(own_lt hown b hb).2
   rw [e1] at hb;injection hb with hb;exact hF' b hb.symm hl)).keep hk2
theorem make_run {P:Program}{t e:TypeId}{z:Value}{size bytes:Nat}(T:TyS P t e z size bytes)(n:Nat)(hb:bytes*n≤281474976710656)(hn:n≤9223372036854775807)(w:World):
  (Instr.makeSlice t (.int .i64 n) (.int .i64 n)).run P w= .ok (.slice (some ⟨w.heap.size,0,none⟩) n n) (w.alloc (.cells (madeCells z.cells (n*size)) e)):=by
 obtain ⟨i,hi,hz,hs,hby⟩:=T.info
 have hr:=run_make (P:=P) w t e i z T.ht hi hz .i64 .i64 n n (by omega) (Int.le_refl _) (by
  rw [hby]
  have:((bytes*n:Nat):Int)≤281474976710656:=by omega
  rwa [Int.natCast_mul] at this) (by omega)
 simp only [Int.toNat_natCast] at hr
 rw [hr,hs]
theorem flatten_rep_len {α:Type}(l:List α)(n:Nat):(List.replicate n l).flatten.length=n*l.length:=by simp
theorem flatten_rep_get {α:Type}{l:List α}(n j:Nat)(h0:0 < l.length)(hj:j < n*l.length):(List.replicate n l).flatten[j]?=l[j % l.length]?:=by
 have h1:j / l.length < n:=Nat.div_lt_of_lt_mul (by rw [Nat.mul_comm];exact hj)
 have h2:=flatten_slot (k:=l.length) (List.replicate n l) (j / l.length) l (by intro e he;rw [List.mem_replicate] at he;rw [he.2]) (by rw [List.getElem?_replicate];simp [h1]) (j % l.length)
 have h3:=Nat.mod_lt j h0
 have h4:=h2 l[j % l.length] (List.getElem?_eq_getElem h3)
 rw [Nat.mul_comm (j / l.length),Nat.div_add_mod] at h4
 rw [h4,List.getElem?_eq_getElem h3]
theorem madeCells_flat (z:Array Value)(n:Nat)(h0:0 < z.size):(madeCells z (n*z.size)).toList=(List.replicate n z.toList).flatten:=by
 refine List.ext_getElem? fun j=>?_
 rcases Nat.lt_or_ge j (n*z.size) with hj|hj
 ·rw [flatten_rep_get n j (by simpa using h0) (by simpa using hj)]
  have hm:=Nat.mod_lt j h0
  simp [madeCells,hj,hm]
 ·rw [List.getElem?_eq_none (by simp [madeCells];exact hj),List.getElem?_eq_none (by rw [flatten_rep_len];simpa using hj)]
theorem made_own {P:Program}{t e:TypeId}{z:Value}{size bytes:Nat}(T:TyS P t e z size bytes)(n:Nat)(hn:n≤9223372036854775807)(w:World)(g:Nat)(hg:g=w.heap.size):
  (w.alloc (.cells (madeCells z.cells (n*size)) e)).ownsRow 0 e size (.slice (some ⟨g,0,none⟩) n n) n (List.replicate n z.cells.toList).flatten:=by
 subst hg
 have h:=World.ownsRow_lit w (base:=0) (e:=e) (size:=size) (madeCells z.cells (n*size)) n (Nat.zero_le _) (by unfold maxLen;omega) (size_madeCells _ _)
 have hz:=T.hzs
 have h0:=T.hsz
 rw [← hz] at h⊢
 rw [madeCells_flat _ _ (by omega)] at h
 exact h
theorem replicate_flatMap {T:Type}{f:T→List Value}(n:Nat)(x:T):(List.replicate n x).flatMap f=(List.replicate n (f x)).flatten:=by
 rw [List.flatMap,List.map_replicate]
theorem run_copy_sz {P:Program}(w:World)(dT sT ty elem:TypeId)(g o dLen dCap:Nat)(a:Addr)(sLen sCap:Nat)(cur:Array Value)(t:TypeId)(cs:List Value)(size n:Nat)
  (hu:P.underlying dT=some (.slice elem)) (hs:(P.info? elem).map (·.size)=some size)
  (hg:w.heap[g]?=some (.cells cur t (0,0))) (hn:n=Nat.min sLen dLen) (hcs:cs.length=n*size)
  (hsrc:∀j v,cs[j]?=some v→w.cell? (a.add j)=some v) (hfit:o+cs.length≤cur.size) (h1:∀v∈cs,v.oneCell'=true):
  (Builtin.copy_ #[dT,sT] ty #[.slice (some ⟨g,o,none⟩) dLen dCap,.slice (some a) sLen sCap]).run P w=
   .ok (goInt n) (w.setRow g (cur.toList.take o++cs++cur.toList.drop (o+cs.length)).toArray):=by
 have hl:=run_loadCells_list (P:=P) w a cs hsrc
 have hst:=run_storeCells_at P g o t cs 0 cur w hg (by simpa using hfit) h1
 cases hq:P.info? elem with
 |none=>simp [hq] at hs
 |some i=>
  have hi:i.size=size:=by simpa [hq] using hs
  rw [hcs] at hl
  subst hn
  simp [Builtin.copy_,run_underlying hu,Builtin.lenOf,Builtin.firstCells,sizeOf,typeInfo,hq,hi,hl,hst]
theorem wp_copy_sz {P:Program}{w:World}{o:Oper}{a:Act}{K:Act→World→Prop}{Q:Exit→Act→World→Prop}(d s:Operand)(dT sT:TypeId)
  (ho:o.op= .call {callee:= .builtin .copy,args:=#[d,s],argTypes:=#[dT,sT]}) (elem:TypeId) (size:Nat) (hu:P.underlying dT=some (.slice elem)) (hsz:(P.info? elem).map (·.size)=some size)
  (g off dLen dCap:Nat) (ad:Addr) (sLen sCap n:Nat) (hd:a.eval d= .slice (some ⟨g,off,none⟩) dLen dCap) (hs:a.eval s= .slice (some ad) sLen sCap)
  (cur:Array Value) (t:TypeId) (hg:w.heap[g]?=some (.cells cur t (0,0))) (cs:List Value) (hn:n=Nat.min sLen dLen) (hcs:cs.length=n*size)
  (hsrc:∀j v,cs[j]?=some v→w.cell? (ad.add j)=some v) (hfit:off+cs.length≤cur.size) (h1:∀v∈cs,v.oneCell'=true)
  (h:K (a.put o.dst (goInt n)) (w.setRow g (cur.toList.take off++(cs++cur.toList.drop (off+cs.length))).toArray)):o.wp P a w K Q:=by
 have hrun:=run_copy_sz (P:=P) w dT sT o.type elem g off dLen dCap ad sLen sCap cur t cs size n hu hsz hg hn hcs hsrc hfit h1
 unfold Oper.wp
 simp [execOp,ho,resolve,invoke,builtin,hd,hs,hrun,Result.andThen]
 exact h
theorem step_copy_sz {P:Program}{ops:Array Oper}{w:World}{o:Oper}{a:Act}{K:Act→World→Prop}{Q:Exit→Act→World→Prop}{E:Prop}(hgd:o.guard=none)(d s:Operand)(dT sT:TypeId)
  (ho:o.op= .call {callee:= .builtin .copy,args:=#[d,s],argTypes:=#[dT,sT]}) (elem:TypeId) (size:Nat) (hu:P.underlying dT=some (.slice elem)) (hsz:(P.info? elem).map (·.size)=some size)
  (g off dLen dCap:Nat) (ad:Addr) (sLen sCap n:Nat) (hd:a.eval d= .slice (some ⟨g,off,none⟩) dLen dCap) (hs:a.eval s= .slice (some ad) sLen sCap)
  (cur:Array Value) (t:TypeId) (hg:w.heap[g]?=some (.cells cur t (0,0))) (cs:List Value) (hn:n=Nat.min sLen dLen) (hcs:cs.length=n*size)
  (hsrc:∀j v,cs[j]?=some v→w.cell? (ad.add j)=some v) (hfit:off+cs.length≤cur.size) (h1:∀v∈cs,v.oneCell'=true)
  (h:K (a.put o.dst (goInt n)) (w.setRow g (cur.toList.take off++(cs++cur.toList.drop (off+cs.length))).toArray)):if Region.wanted o (yielded ops a.tmps)=true then Oper.wp P o a w K Q else E:=by
 have hw:Region.wanted o (yielded ops a.tmps)=true:=by simp [Region.wanted,hgd]
 rw [if_pos hw]
 exact wp_copy_sz d s dT sT ho elem size hu hsz g off dLen dCap ad sLen sCap n hd hs cur t hg cs hn hcs hsrc hfit h1 h
theorem grown_setRow (w:World)(g:Nat)(cs:Array Value):w.grownBy (w.setRow g cs) (some g):=
 ⟨rfl,rfl,rfl,by simp [World.setRow],fun k _ hk=>setRow_other w g k cs (fun e=>hk (by rw [e]))⟩
theorem step_copy_grown {P:Program}{ops:Array Oper}{w:World}{o:Oper}{a:Act}{K:Act→World→Prop}{Q:Exit→Act→World→Prop}{E:Prop}(hgd:o.guard=none)(d s:Operand)(dT sT:TypeId)
  (ho:o.op= .call {callee:= .builtin .copy,args:=#[d,s],argTypes:=#[dT,sT]}) (elem:TypeId) (size:Nat) (hu:P.underlying dT=some (.slice elem)) (hsz:(P.info? elem).map (·.size)=some size)
  (g off dLen dCap:Nat) (ad:Addr) (sLen sCap n:Nat) (hd:a.eval d= .slice (some ⟨g,off,none⟩) dLen dCap) (hs:a.eval s= .slice (some ad) sLen sCap)
  (cur:Array Value) (t:TypeId) (hg:w.heap[g]?=some (.cells cur t (0,0))) (cs:List Value) (hn:n=Nat.min sLen dLen) (hcs:cs.length=n*size)
  (hsrc:∀j v,cs[j]?=some v→w.cell? (ad.add j)=some v) (hfit:off+cs.length≤cur.size) (h1:∀v∈cs,v.oneCell'=true)
  (h:∀w',Hid (w'.heap[g]?=some (.cells (splice cur.toList off cs).toArray t (0,0)))→w.grownBy w' (some g)→K (a.put o.dst (goInt n)) w'):if Region.wanted o (yielded ops a.tmps)=true then Oper.wp P o a w K Q else E:=
 step_copy_sz hgd d s dT sT ho elem size hu hsz g off dLen dCap ad sLen sCap n hd hs cur t hg cs hn hcs hsrc hfit h1 (h _ (show _=_ by simpa [splice] using setRow_heap w g _ _ t _ hg) (grown_setRow w g _))
theorem flatMap_take {T:Type}{k:Nat}{f:T→List Value}(hf:∀x,(f x).length=k):∀(xs:List T) (n:Nat),(xs.flatMap f).take (n*k)=(xs.take n).flatMap f:=by
 intro xs
 induction xs with
 |nil=>intro n;simp
 |cons x l ih=>
  intro n
  cases n with
  |zero=>simp
  |succ n=>
   rw [List.take_succ_cons,List.flatMap_cons,List.flatMap_cons,List.take_append,hf x,← ih n]
   rw [List.take_of_length_le (by rw [hf];rw [Nat.add_mul];omega),show (n+1)*k - k=n*k by rw [Nat.add_mul];omega]
theorem flatMap_drop {T:Type}{k:Nat}{f:T→List Value}(hf:∀x,(f x).length=k):∀(xs:List T) (n:Nat),(xs.flatMap f).drop (n*k)=(xs.drop n).flatMap f:=by
 intro xs
 induction xs with
 |nil=>intro n;simp
 |cons x l ih=>
  intro n
  cases n with
  |zero=>simp
  |succ n=>
   rw [List.drop_succ_cons,List.flatMap_cons,List.drop_append,hf x,← ih n]
   rw [List.drop_of_length_le (by rw [hf];rw [Nat.add_mul];omega),show (n+1)*k - k=n*k by rw [Nat.add_mul];omega];simp
theorem flatMap_len {T:Type}{k:Nat}{f:T→List Value}(hf:∀x,(f x).length=k)(xs:List T):(xs.flatMap f).length=xs.length*k:=by
 induction xs with
 |nil=>simp
 |cons x l ih=>rw [List.flatMap_cons,List.length_append,ih,hf,List.length_cons,Nat.add_mul];omega
end
section
set_option maxRecDepth 100000
set_option maxHeartbeats 400000
def oWay:OCod TWay:= .flat 2 TWay.cells (fun _=>rfl)
def OCache (F:Nat→Prop) (w:World) (v:Value) (c:List (List TWay)):Prop:=OSl (OCod.slice 126 oWay) 124 F w v c
theorem tyWays:TyS Try.prog 61 124 (.slice none 0 0) 1 24:=⟨Try.underlying61,info_of (by kernel_rfl),rfl,by decide⟩
def RetCache (c:List (List TWay)) (w:World) (en:Ending) (w':World):Prop:=∃A n,en= .returned (.agg #[.slice A c.length n])∧OCache (Rng w.heap.size w'.heap.size) w' (.slice A c.length n) c∧Below w.heap.size w w'
theorem take_snoc {T:Type}[Inhabited T]{xs:List T}{k:Nat}(h:k < xs.length):xs.take (k+1)=xs.take k++[nth xs k]:=by
 rw [List.take_succ_eq_append_getElem h,nth_eq h]
theorem len_take {T:Type}{xs:List T}{k:Nat}(h:k≤xs.length):(xs.take k).length=k:=by rw [List.length_take];omega
theorem cacheOwn (c:List (List TWay))(A:Option Addr)(n B:Nat)(w:World)(hB:B≤w.heap.size)(hs:Sl cWay.slice (Low B) w A n c)(hl:c.length≤1000000000000)(hl2:∀i,i < c.length→(nth c i).length≤1000000000000):
  Calls Try.prog 65 #[.agg #[.slice A c.length n]] w (RetCache c w):=by
 go_enter Try.func65,Try.ntmps65
 go_wp2_with fail
 go_loopw [9] (fun iv wr=>∃(k:Nat) (A1:Option Addr) (c1:Nat),k≤c.length∧iv= .int .i64 k∧wr.heap[w.heap.size+1]?=some (.cells #[.slice none 0 0] 63)∧wr.heap[w.heap.size+2]?=some (.cells #[.slice A1 k c1] 63)∧
  OCache (Rng (w.heap.size+3) wr.heap.size) wr (.slice A1 k c1) (c.take k)∧Below w.heap.size w wr) (fun iv _=>c.length - (intOf iv).toNat)
 case atStart=>exact ⟨0,none,0,Nat.zero_le _,rfl,byH,byH,OSl.nil _ _ _ _,byB⟩
 case round=>
  obtain ⟨k,A1,c1,hk,rfl,hr,ho,hO,hbw⟩:=hrel
  obtain ⟨cr,fr,zr⟩:=blk hr
  obtain ⟨co,fo,zo⟩:=blk ho
  have hsz:=hbw.size
  by_cases hlt:k < c.length
  ·obtain ⟨b,o,A',c',rfl,hI,hcell,hin⟩:=(hs.next hB hbw).at_slice hlt
   have hl3:=hl2 k hlt
   have HC:=zH (fun W (h:Below wr.heap.size wr W)=>cloneWay (nth c k) A' c' wr.heap.size W h.size ((hin.next (Nat.le_trans hB hsz) h).up (Nat.le_trans hB hsz)) (by omega))
   obtain ⟨ess,G,e1,e2,e3,e4,e5,e6⟩:=hO
   rw [len_take hk] at e1 e2
   have hlo:∀b,(Value.slice A1 k c1).ownBlock=some b→w.heap.size+3≤b:=fun b hb=>(e3 b hb).1
   have hk0:(0:Int)≤k:=by omega
   have hk1:(k:Int) < c.length:=by omega
   clear hs hin
   go_wp2_with fail
   have hcO:wr.cell? ⟨w.heap.size+2,0,none⟩=some (.slice A1 k c1):=(co 0).trans rfl
   go_region_law
    (first|(go_simp;(go_at_call 112;refine (HC.out _ byB).mono ?_;rintro e w1 ⟨A2,c2,rfl,hown2,hb_w1⟩;refine kbb (show w1.heap[w.heap.size+1]?=some (.cells #[.slice none 0 0] 63) from (hb_w1.block _ byS).trans byH) (fun r_w1 cr_w1 fr_w1 zr_w1=>?_);refine kbb (show w1.heap[w.heap.size+2]?=some (.cells #[.slice A1 k c1] 63) from (hb_w1.block _ byS).trans byH) (fun o_w1 co_w1 fo_w1 zo_w1=>?_);refine armT w hb_w1 (fun h_w1 s_w1 t_w1 hb_w1=>?_);(try simp at t_w1));have e2w:w1.ownsRow 0 124 1 (.slice A1 k c1) k ess.flatten:=own_keep e2 fun b hb=>(show KeepI (Rng (w.heap.size+3) wr.heap.size) wr w1 from byI) b (e3 b hb);try dsimp only)|(refine step_app ?_ (.tmp 14) (.tmp 17) _ ?_ 0 tyWays (.slice A1 k c1) k ess.flatten ?_ ?_ (some ⟨w1.heap.size,0,none⟩) 1 1 [.slice A2 (nth c k).length c2] ?_ ?_ (one_one rfl) ?_ ?_ ?_ ?_;rfl;rfl;rfl;exact (by repeat (first|with_reducible exact e2w|(with_reducible refine World.ownsRow.alloc ?_ _)|(with_reducible refine own_drew ?_)|(with_reducible refine own_drewN ?_ _)));rfl;exact (src_new rfl rfl);(first|(unfold maxLen;omega)|(simp only [maxLen];omega));(omega);(exact Nat.zero_le _);intro A3 c3 w3 hown3 hg_w3 hat_w3;refine have_then (P:=w3.heap[w.heap.size+1]?=some (.cells #[.slice none 0 0] 63)) ?_ (fun r_w3=>?_);(focus (refine (hg_w3.block _ ?_ ?_).trans ?_;(first|omega|(simp<;>omega));(intro e;have hlt:=hlo _ e.symm;omega);exact byH;done));obtain ⟨cr_w3,fr_w3,zr_w3⟩:=blk r_w3;refine have_then (P:=w3.heap[w.heap.size+2]?=some (.cells #[.slice A1 k c1] 63)) ?_ (fun o_w3=>?_);(focus (refine (hg_w3.block _ ?_ ?_).trans ?_;(first|omega|(simp<;>omega));(intro e;have hlt:=hlo _ e.symm;omega);exact byH;done));obtain ⟨co_w3,fo_w3,zo_w3⟩:=blk o_w3;refine have_then (P:=Below w.heap.size w w3) ?_ (fun h_w3=>?_);(focus (refine Below.grown ?_ hg_w3 ?_ ?_;(focus (exact byB;done));(first|exact Nat.le_refl _|exact Below.size (by assumption)|omega|(simp<;>omega));(intro kk hkk;have hlt:=hlo _ hkk;omega);done));have s_w3:=Below.size h_w3;have t_w3:=hg_w3.size;(try simp at t_w3)))
   all_goals
    go_wp2_with fail
    go_roundw
    case rel=>
     have hn2:=own_mono (base':=0) hown2 (Nat.zero_le _)
     refine ⟨k+1,A3,c3,by omega,by go_num,byH,?_,?_,byB⟩
     ·have:=heap_set_same (i:=0) (u:= .slice A3 (k+1) c3) o_w3
      simpa using this
     ·unfold OCache
      rw [take_snoc hlt]
      have hl1:(c.take k).length=k:=len_take hk
      refine osl_step (F:=Rng (w.heap.size+3) wr.heap.size) (Fx:=Rng wr.heap.size w1.heap.size) (es:=[.slice A2 (nth c k).length c2]) (by rw [hl1];exact e1) e4 e5 e6 e3 hg_w3 hat_w3 (by rw [hl1];exact hown3) ⟨_,rfl,osl_flat.2 ⟨(by repeat (first|with_reducible exact hn2|(with_reducible refine World.ownsRow.alloc ?_ _)|(with_reducible refine own_drew ?_)|(with_reducible refine own_drewN ?_ _))),?_⟩⟩ byI ?_ ?_ ?_ ?_ ?_
      ·intro b hb
       exact World.ownsRow.lt hown2 b hb
      ·intro b hb hb';simp only [Rng] at hb hb';omega
      ·intro b hb;simp only [Rng] at hb;simp;omega
      ·intro b hb;simp only [Rng] at hb⊢;simp;omega
      ·intro b hb hb';simp only [Rng];simp at hb⊢;omega
      ·exact byI
    case measure=>simp [intOf];omega
  ·obtain rfl:k=c.length:=by omega
   rw [List.take_length] at hO
   go_wp2_with fail
   refine bodyPost_ret (v:= .agg #[.slice A1 c.length c1]) (by simp [results,Try.results65,go_sem, *]) rfl ?_
   refine ⟨A1,c1,rfl,OSl.mono (OSl.keepI hO byI) ?_,byB⟩
   ·intro b hb;simp only [Rng] at hb⊢;simp;omega
theorem nth_replicate {T:Type}[Inhabited T]{n k:Nat}{x:T}(h:k < n):nth (List.replicate n x) k=x:=by
 rw [nth_eq (by simpa using h)];simp
def emptySet (ways:Nat):List TWay:=List.replicate ways ⟨0,false⟩
theorem cacheEmpty (sets ways:Nat)(w:World)(h1:sets≤1000000000000)(h2:ways≤1000000000000):
  Calls Try.prog 114 #[.int .i64 sets,.int .i64 ways] w (RetCache (emptyCache sets ways) w):=by
 have hmk:=make_run tyWay ways (by omega) (by omega)
 have hlen:(emptyCache sets ways).length=sets:=by simp [emptyCache]
 have HL:=zH hlen
 clear hlen
 generalize hc:emptyCache sets ways=c at*
 have HC:=zH (show ∀k,k < sets→nth c k=emptySet ways by intro k hk;rw [← hc];exact nth_replicate hk)
 clear hc
 go_enter Try.func114,Try.ntmps114
 go_wp2_with fail
 go_loopw [7] (fun iv wr=>∃(k:Nat) (A1:Option Addr) (c1:Nat),k≤sets∧iv= .int .i64 k∧wr.heap[w.heap.size]?=some (.cells #[.slice none 0 0] 63)∧wr.heap[w.heap.size+1]?=some (.cells #[.slice A1 k c1] 63)∧
  OCache (Rng (w.heap.size+2) wr.heap.size) wr (.slice A1 k c1) (c.take k)∧Below w.heap.size w wr) (fun iv _=>sets - (intOf iv).toNat)
 case atStart=>exact ⟨0,none,0,Nat.zero_le _,rfl,byH,byH,OSl.nil _ _ _ _,byB⟩
 case round=>
  obtain ⟨k,A1,c1,hk,rfl,hr,ho,hO,hbw⟩:=hrel
  obtain ⟨cr,fr,zr⟩:=blk hr
  obtain ⟨co,fo,zo⟩:=blk ho
  have hsz:=hbw.size
  by_cases hlt:k < sets
  ·obtain ⟨ess,G,e1,e2,e3,e4,e5,e6⟩:=hO
   have hkl:k≤c.length:=by rw [HL.out];exact hk
   rw [len_take hkl] at e1 e2
   have e2:wr.ownsRow 0 124 1 (.slice A1 k c1) k ess.flatten:=e2
   have hlo:∀b,(Value.slice A1 k c1).ownBlock=some b→w.heap.size+2≤b:=fun b hb=>(e3 b hb).1
   have hk0:(0:Int)≤k:=by omega
   have hk1:(k:Int) < sets:=by omega
   have HM:=zH (made_own tyWay ways (by omega))
   go_wp2_with fail
   go_region_law
    (first|(refine step_app ?_ (.tmp 10) (.tmp 13) _ ?_ 0 tyWays (.slice A1 k c1) k ess.flatten ?_ ?_ (some ⟨wr.heap.size+1,0,none⟩) 1 1 [.slice (some ⟨wr.heap.size,0,none⟩) ways ways] ?_ ?_ (one_one rfl) ?_ ?_ ?_ ?_;rfl;rfl;rfl;exact (by repeat (first|with_reducible exact e2|(with_reducible refine World.ownsRow.alloc ?_ _)|(with_reducible refine own_drew ?_)|(with_reducible refine own_drewN ?_ _)));rfl;exact (src_new (by simp) rfl);(first|(unfold maxLen;omega)|(simp only [maxLen];omega));(omega);(exact Nat.zero_le _);intro A3 c3 w3 hown3 hg_w3 hat_w3;refine have_then (P:=w3.heap[w.heap.size]?=some (.cells #[.slice none 0 0] 63)) ?_ (fun r_w3=>?_);(focus (refine (hg_w3.block _ ?_ ?_).trans ?_;(first|omega|(simp<;>omega));(intro e;have hlt:=hlo _ e.symm;omega);exact byH;done));obtain ⟨cr_w3,fr_w3,zr_w3⟩:=blk r_w3;refine have_then (P:=w3.heap[w.heap.size+1]?=some (.cells #[.slice A1 k c1] 63)) ?_ (fun o_w3=>?_);(focus (refine (hg_w3.block _ ?_ ?_).trans ?_;(first|omega|(simp<;>omega));(intro e;have hlt:=hlo _ e.symm;omega);exact byH;done));obtain ⟨co_w3,fo_w3,zo_w3⟩:=blk o_w3;refine have_then (P:=Below w.heap.size w w3) ?_ (fun h_w3=>?_);(focus (refine Below.grown ?_ hg_w3 ?_ ?_;(focus (exact byB;done));(first|exact Nat.le_refl _|exact Below.size (by assumption)|omega|(simp<;>omega));(intro kk hkk;have hlt:=hlo _ hkk;omega);done));have s_w3:=Below.size h_w3;have t_w3:=hg_w3.size;(try simp at t_w3)))
   all_goals
    go_wp2_with fail
    go_roundw
    case rel=>
     refine ⟨k+1,A3,c3,by omega,by go_num,byH,?_,?_,byB⟩
     ·have:=heap_set_same (i:=0) (u:= .slice A3 (k+1) c3) o_w3
      simpa using this
     ·unfold OCache
      have hlc:k < c.length:=by rw [HL.out];exact hlt
      rw [take_snoc hlc,HC.out k hlt]
      have hl1:(c.take k).length=k:=len_take hkl
      refine osl_step (F:=Rng (w.heap.size+2) wr.heap.size) (Fx:=Rng wr.heap.size (wr.heap.size+1)) (es:=[.slice (some ⟨wr.heap.size,0,none⟩) ways ways]) (by rw [hl1];exact e1) e4 e5 e6 e3 hg_w3 hat_w3 (by rw [hl1];exact hown3) ⟨.slice (some ⟨wr.heap.size,0,none⟩) ways ways,rfl,osl_flat.2 ⟨?_,?_⟩⟩ byI ?_ ?_ ?_ ?_ ?_
      ·have:=HM.out wr.drew wr.heap.size rfl
       rw [show (emptySet ways).length=ways by simp [emptySet]]
       unfold emptySet
       rw [replicate_flatMap]
       exact World.ownsRow.alloc this _
      ·intro b hb;simp [Value.ownBlock] at hb;simp only [Rng];omega
      ·intro b hb hb';simp only [Rng] at hb hb';omega
      ·intro b hb;simp only [Rng] at hb;simp;omega
      ·intro b hb;simp only [Rng] at hb⊢;simp;omega
      ·intro b hb hb';simp only [Rng];simp at hb⊢;omega
      ·exact byI
    case measure=>simp [intOf];omega
  ·obtain rfl:k=sets:=by omega
   have hO:OCache (Rng (w.heap.size+2) wr.heap.size) wr (.slice A1 k c1) c:=by rw [← HL.out,List.take_length,HL.out] at hO;exact hO
   go_wp2_with fail
   refine bodyPost_ret (v:= .agg #[.slice A1 k c1]) (by simp [results,Try.results114,go_sem, *]) rfl ?_
   refine ⟨A1,c1,by rw [HL.out],OSl.mono (OSl.keepI (by rw [HL.out];exact hO) byI) ?_,byB⟩
   ·intro b hb;simp only [Rng] at hb⊢;simp;omega
end
end Go.Proofs.Ytinlmkhlgclbfab
