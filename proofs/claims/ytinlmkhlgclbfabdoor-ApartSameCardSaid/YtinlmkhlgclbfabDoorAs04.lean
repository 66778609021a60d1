/- OwnY OwnX -/
import Derived.Test.YtinlmkhlgclbfabDoorAs03
namespace Go.Proofs.YtinlmkhlgclbfabDoor
open Go.RowKit
section
section
variable {P : Program}
theorem run_append_Z (w:World){t e:TypeId}{z:Value}{size bytes:Nat}(T:TyS P t e z size bytes)(ty:TypeId)(v:Value)(n:Nat)(xs:List Value)
  (hown:ownsZ w e size v n xs) (A:Option Addr) (m c:Nat) (news:List Value) (hsrc:Src w A m size news) (h1:∀u∈news,u.oneCell'=true)
  (h63:n+m≤maxLen) (hbytes:(n+m)*bytes≤140737488355328):
  ∃A' c' w',(Builtin.append_ #[t,t] ty #[v,.slice A m c]).run P w= .ok (.slice A' (n+m) c') w'∧ownsZ w' e size (.slice A' (n+m) c') (n+m) (xs++news)∧w.grownBy w' (rowZ v)∧
   (∀b,rowZ (.slice A' (n+m) c')=some b→rowZ v=some b∨b=w.heap.size):=by
 obtain ⟨A0,c0,rfl,q1,q2,q3,q4,q5⟩:=ownZ_form hown
 rcases q5 with ⟨rfl,rfl,q6⟩|⟨g,rfl,q6,q7,q8,_,q9⟩
 ·have hx:xs=[]:=List.eq_nil_of_length_eq_zero (by simpa using q4)
  subst hx
  rw [q6]
  cases A0 with
  |none=>
   obtain ⟨v',w',hr,h2,h3,h5⟩:=run_append_src (P:=P) w 0 T ty (.slice none 0 0) 0 [] ⟨by simp,.inl ⟨rfl,rfl⟩⟩ A m c news hsrc h1 h63 hbytes (Nat.zero_le _)
   obtain ⟨A',c',rfl,hn,_,hnil,_,hcase⟩:=own_form h2
   refine ⟨A',c',w',hr,.inl h2,h3,fun bb hbb=>?_⟩
   rcases Nat.eq_zero_or_pos c' with h0|h0
   ·subst h0;rw [rowZ_zero] at hbb;cases hbb
   ·rcases hcase with ⟨_,_,h6⟩|⟨g,rfl,_,_,_⟩
    ·omega
    ·rw [rowZ_pos h0] at hbb
     rcases h5 with h5|h5
     ·cases h5
     ·right
      injection hbb with hbb;injection h5 with h5;omega
  |some a=>
   rcases Nat.eq_zero_or_pos m with h0|h0
   ·subst h0
    have hn:news=[]:=List.eq_nil_of_length_eq_zero (by simpa using hsrc.1)
    subst hn
    obtain ⟨i,hi,_,_,_⟩:=T.info
    have ht:=T.ht
    refine ⟨some a,0,w,?_,.inr ⟨rfl,rfl,a,rfl⟩,⟨rfl,rfl,rfl,Nat.le_refl _,fun _ _ _=>rfl⟩,fun bb hbb=>by rw [rowZ_zero] at hbb;cases hbb⟩
    cases A with
    |none=>simp [Builtin.append_,run_underlying ht,sizeOf,typeInfo,hi,Builtin.lenOf,Builtin.firstCells,storeCells]
    |some ad=>simp [Builtin.append_,run_underlying ht,sizeOf,typeInfo,hi,Builtin.lenOf,Builtin.firstCells,storeCells,loadCells,loadCellsFrom]
   ·obtain ⟨b,o,rfl,hcs⟩:=hsrc.2 h0
    obtain ⟨i,hi,hz,hs,hb⟩:=T.info
    have hs':=hs;have hb':=hb
    subst hs;subst hb
    have hsmall:0+m≤9223372036854775807:=by simp only [maxLen] at h63;omega
    have hr:=run_append_grow (P:=P) w t ty e i z T.ht hi hz a 0 0 [] (by simp) (fun j u hu=>by simp at hu) ⟨b,o,none⟩ m c news hsrc.1 (fun j u hu=>by rw [Addr.add_lit];exact hcs j u hu) (by omega) (by omega) (growslice_fits (by omega) hbytes)
    have hge:=grownCap_ge w (0+m) 0 e
    have hcm:grownCap w (0+m) 0 e≤maxLen:=grownCap_le_maxLen w (0+m) 0 e h63
    refine ⟨_,_,_,hr,.inl ⟨by simpa using hsrc.1,.inr ⟨w.heap.size,_,_,rfl,Nat.zero_le _,heap_alloc_new w.drew _,hge,hcm,?_,?_⟩⟩,⟨rfl,rfl,rfl,by simp,fun k hk _=>heap_alloc_old w.drew _ hk⟩,fun bb hbb=>?_⟩
    ·have hl:=hsrc.1
     simp only [Array.size_append,List.size_toArray,size_zeroCells,T.hzs,hl,List.length_nil,Nat.zero_add] at hge⊢
     rw [← Nat.add_mul]
     congr 1
     omega
    ·simp only [Array.toList_append,List.append_assoc,List.nil_append,Nat.zero_add]
     rw [← hsrc.1]
     simp
    ·rw [rowZ_pos (by omega)] at hbb
     injection hbb with hbb;right;exact hbb.symm
 ·obtain ⟨v',w',hr,h2,h3,h5⟩:=run_append_src (P:=P) w 0 T ty _ n xs q9 A m c news hsrc h1 h63 hbytes (Nat.zero_le _)
  obtain ⟨A',c',rfl,hn,_,hnil,_,hcase⟩:=own_form h2
  have hrow:(Value.slice (some ⟨g,0,none⟩) n c0).ownBlock=rowZ (Value.slice (some ⟨g,0,none⟩) n c0):=by rw [q7];rfl
  refine ⟨A',c',w',hr,.inl h2,by rw [← hrow];exact h3,fun bb hbb=>?_⟩
  have hbo:=rowZ_own hbb
  rw [← hrow]
  rcases h5 with h5|h5
  ·left;rw [← h5];exact hbo
  ·right;rw [h5] at hbo;injection hbo with hbo;exact hbo.symm
theorem wp_appZ {w:World}{o:Oper}{a:Act}{K:Act→World→Prop}{Q:Exit→Act→World→Prop}(s x:Operand)(t:TypeId)
  (ho:o.op= .call {callee:= .builtin .append,args:=#[s,x],argTypes:=#[t,t]})
  {e:TypeId} {z:Value} {size bytes:Nat} (T:TyS P t e z size bytes) (v:Value) (n:Nat) (xs:List Value) (hs:a.eval s=v) (hown:ownsZ w e size v n xs)
  (A:Option Addr) (m c:Nat) (news:List Value) (hx:a.eval x= .slice A m c) (hsrc:Src w A m size news) (h1:∀u∈news,u.oneCell'=true)
  (h63:n+m≤maxLen) (hbytes:(n+m)*bytes≤140737488355328)
  (h:∀A' c' w',ownsZ w' e size (.slice A' (n+m) c') (n+m) (xs++news)→w.grownBy w' (rowZ v)→(∀b,rowZ (.slice A' (n+m) c')=some b→rowZ v=some b∨b=w.heap.size)→K (a.put o.dst (.slice A' (n+m) c')) w'):o.wp P a w K Q:=by
 obtain ⟨A',c',w',hr,h2,h3,h5⟩:=run_append_Z (P:=P) w T o.type v n xs hown A m c news hsrc h1 h63 hbytes
 unfold Oper.wp execOp
 simp only [ho,resolve,invoke,builtin,Sem.run_bind,Sem.run_pure,Result.andThen_ok,List.map_toArray,List.map_cons,List.map_nil,hs,hx,hr]
 exact h A' c' w' h2 h3 h5
theorem wpList_appZ {w:World}{ops:Array Oper}{rest:List Oper}{o:Oper}{a:Act}{Q:Exit→Act→World→Prop}(hgd:o.guard=none)(s x:Operand)(t:TypeId)
  (ho:o.op= .call {callee:= .builtin .append,args:=#[s,x],argTypes:=#[t,t]})
  {e:TypeId} {z:Value} {size bytes:Nat} (T:TyS P t e z size bytes) (v:Value) (n:Nat) (xs:List Value) (hs:a.eval s=v) (hown:ownsZ w e size v n xs)
  (A:Option Addr) (m c:Nat) (news:List Value) (hx:a.eval x= .slice A m c) (hsrc:Src w A m size news) (h1:∀u∈news,u.oneCell'=true)
  (h63:n+m≤maxLen) (hbytes:(n+m)*bytes≤140737488355328)
  (h:∀A' c' w',ownsZ w' e size (.slice A' (n+m) c') (n+m) (xs++news)→w.grownBy w' (rowZ v)→(∀b,rowZ (.slice A' (n+m) c')=some b→rowZ v=some b∨b=w.heap.size)→wpList P ops Q rest (a.put o.dst (.slice A' (n+m) c')) w'):
  wpList P ops Q (o::rest) a w:=
 wpList_plain hgd fun _ hK=>wp_appZ s x t ho T v n xs hs hown A m c news hx hsrc h1 h63 hbytes fun A' c' w' h2 h3 h4=>hK _ _ (h A' c' w' h2 h3 h4)
end
def oInt:OCod Int:=OCod.flat 1 (fun n=>[.int .i64 n]) (fun _=>rfl)
def oJob:OCod TJob:=OCod.flat 6 TJob.cells (fun _=>rfl)
def oEv:OCod TEv:=OCod.flat 4 TEv.cells (fun _=>rfl)
def oRing:OCod TRing where
 cod:=cRing
 rel:=fun F w cs x=>∃v,cs=[v,.int .i64 x.lost]∧OZl oInt 3 F w v x.vals
 toRead:=fun {F w cs x} ⟨v,h,hs⟩=>by
  obtain ⟨A,c,rfl⟩:=hs.form
  exact ⟨A,c,h,hs.read⟩
 keep:=fun ⟨v,h,hs⟩ hk=>⟨v,h,hs.keep hk⟩
 mono:=fun ⟨v,h,hs⟩ hk=>⟨v,h,hs.mono hk⟩
def oInts:OCod (List Int):=OCod.sliceZ 3 oInt
theorem ozl_made {T:Type}{e:OCod T}{E:TypeId}{w:World}{v:Value}{n:Nat}{x:T}{es:List Value}(hown:ownsZ w E e.cod.size v n (List.replicate n es).flatten)(hx:e.rel (fun _=>False) w es x):
  OZl e E (fun b=>rowZ v=some b) w v (List.replicate n x):=by
 refine ⟨List.replicate n es,fun _ _=>False,by simp,by rw [List.length_replicate];exact hown,fun b hb=>hb,fun i es' x' hi hx'=>?_,fun _ _ h=>h.elim,fun _ _ _ _ h=>h.elim⟩
 rw [List.getElem?_replicate] at hi hx'
 split at hi
 ·rename_i hlt
  rw [if_pos hlt] at hx'
  injection hi with hi;injection hx' with hx'
  subst hi;subst hx'
  exact hx
 ·cases hi
theorem own_block {w:World}{b n size:Nat}{E:TypeId}{cs:Array Value}(h:w.heap[b]?=some (.cells cs E (0,0)))(hs:cs.size=n*size)(hn:n≤maxLen):ownsZ w E size (.slice (some ⟨b,0,none⟩) n n) n cs.toList:=
 .inl ⟨by simpa using hs,.inr ⟨b,n,cs,rfl,Nat.zero_le _,h,Nat.le_refl _,hn,hs,by rw [List.take_of_length_le (by simp;omega)]⟩⟩
structure DomO (G:Nat→Nat→Prop) (w:World) (d:TDom) (T:TDomS):Prop where
 o0:OZl oJob 74 (G 0) w (.slice T.a0 d.jobs.length T.n0) d.jobs
 o1:OZl oInt 3 (G 1) w (.slice T.a1 d.released.length T.n1) d.released
 o2:OZl oRing 77 (G 2) w (.slice T.a2 d.ins.length T.n2) d.ins
 o3:OZl oInt 3 (G 3) w (.slice T.a3 d.taken.length T.n3) d.taken
 o4:OZl oInts 23 (G 4) w (.slice T.a4 d.outs.length T.n4) d.outs
 o5:OZl oEv 79 (G 5) w (.slice T.a5 d.events.length T.n5) d.events
 dis:∀i j b,i≠j→G i b→¬ G j b
 lt:∀i b,G i b→b < w.heap.size
theorem DomO.read {G:Nat→Nat→Prop}{F:Nat→Prop}{w:World}{d:TDom}{T:TDomS}(h:DomO G w d T)(hF:∀i b,G i b→F b):TDom.At F w d T:=
 ⟨(h.o0.mono (hF 0)).read,(h.o1.mono (hF 1)).read,(h.o2.mono (hF 2)).read,(h.o3.mono (hF 3)).read,(h.o4.mono (hF 4)).read,(h.o5.mono (hF 5)).read⟩
theorem DomO.keep {G:Nat→Nat→Prop}{w w':World}{d:TDom}{T:TDomS}(h:DomO G w d T)(hk:∀i b,G i b→w'.heap[b]?=w.heap[b]?)(hs:w.heap.size≤w'.heap.size):DomO G w' d T:=
 ⟨h.o0.keep (hk 0),h.o1.keep (hk 1),h.o2.keep (hk 2),h.o3.keep (hk 3),h.o4.keep (hk 4),h.o5.keep (hk 5),h.dis,fun i b hb=>Nat.lt_of_lt_of_le (h.lt i b hb) hs⟩
def addG (G:Nat→Nat→Prop) (k s s':Nat):Nat→Nat→Prop:=fun i b=>G i b∨(i=k∧s≤b∧b < s')
theorem addG_dis {G:Nat→Nat→Prop}{k s s':Nat}(hd:∀i j b,i≠j→G i b→¬ G j b)(hlt:∀i b,G i b→b < s):∀i j b,i≠j→addG G k s s' i b→¬ addG G k s s' j b:=by
 intro i j b hne h1 h2
 rcases h1 with h1|⟨rfl,h1,_⟩
 ·rcases h2 with h2|⟨rfl,h2,_⟩
  ·exact hd i j b hne h1 h2
  ·have:=hlt i b h1;omega
 ·rcases h2 with h2|⟨rfl,h2,_⟩
  ·have:=hlt j b h2;omega
  ·exact hne rfl
theorem ozl_flat_app {T:Type}{k:Nat}{f:T→List Value}{hf:∀x,(f x).length=k}{E:TypeId}{F F':Nat→Prop}{w w1:World}{v v':Value}{xs ys:List T}
  (h:OZl (OCod.flat k f hf) E F w v xs) (hown:ownsZ w1 E k v' (xs++ys).length ((xs++ys).flatMap f)) (hat:∀b,rowZ v'=some b→rowZ v=some b∨b=w.heap.size) (hF:∀b,F b→F' b) (hF':∀b,b=w.heap.size→b < w1.heap.size→F' b):
  OZl (OCod.flat k f hf) E F' w1 v' (xs++ys):=by
 refine ozl_flat.2 ⟨hown,fun b hb=>?_⟩
 rcases hat b hb with e|e
 ·exact hF b ((ozl_flat.1 h).2 b e)
 ·exact hF' b e (ownZ_lt hown b hb)
theorem DomO.events {G:Nat→Nat→Prop}{w w1:World}{d:TDom}{T:TDomS}(h:DomO G w d T){A:Option Addr}{c n:Nat}(evs:List TEv)(hn:n=(d.events++evs).length)
  (hown:ownsZ w1 79 4 (.slice A n c) n (d.events.flatMap TEv.cells++evs.flatMap TEv.cells)) (hg:w.grownBy w1 (rowZ (.slice T.a5 d.events.length T.n5)))
  (hat:∀b,rowZ (.slice A n c)=some b→rowZ (.slice T.a5 d.events.length T.n5)=some b∨b=w.heap.size):
  DomO (addG G 5 w.heap.size w1.heap.size) w1 {d with events:=d.events++evs} {T with a5:=A,n5:=c} :=by
 subst hn
 have hrow:=(ozl_flat.1 h.o5).2
 have hk:∀i b,i≠5→G i b→w1.heap[b]?=w.heap[b]?:=fun i b hi hb=>hg.block b (h.lt i b hb) (fun e=>h.dis i 5 b hi hb (hrow b e.symm))
 refine ⟨(h.o0.keep (hk 0 · (by omega))).mono fun b hb=> .inl hb,(h.o1.keep (hk 1 · (by omega))).mono fun b hb=> .inl hb,(h.o2.keep (hk 2 · (by omega))).mono fun b hb=> .inl hb,(h.o3.keep (hk 3 · (by omega))).mono fun b hb=> .inl hb,(h.o4.keep (hk 4 · (by omega))).mono fun b hb=> .inl hb,?_,addG_dis h.dis h.lt,fun i b hb=>?_⟩
 ·exact ozl_flat_app h.o5 (by rw [List.flatMap_append];exact hown) hat (fun b hb=> .inl hb) fun b e hl=> .inr ⟨rfl,by omega,hl⟩
 ·rcases hb with hb|hb
  ·exact Nat.lt_of_lt_of_le (h.lt i b hb) hg.size
  ·exact hb.2.2
theorem DomO.jobs {G:Nat→Nat→Prop}{w w1:World}{d:TDom}{T:TDomS}(h:DomO G w d T){A:Option Addr}{c n:Nat}(js:List TJob)(hn:n=(d.jobs++js).length)
  (hown:ownsZ w1 74 6 (.slice A n c) n (d.jobs.flatMap TJob.cells++js.flatMap TJob.cells)) (hg:w.grownBy w1 (rowZ (.slice T.a0 d.jobs.length T.n0)))
  (hat:∀b,rowZ (.slice A n c)=some b→rowZ (.slice T.a0 d.jobs.length T.n0)=some b∨b=w.heap.size):
  DomO (addG G 0 w.heap.size w1.heap.size) w1 {d with jobs:=d.jobs++js} {T with a0:=A,n0:=c} :=by
 subst hn
 have hrow:=(ozl_flat.1 h.o0).2
 have hk:∀i b,i≠0→G i b→w1.heap[b]?=w.heap[b]?:=fun i b hi hb=>hg.block b (h.lt i b hb) (fun e=>h.dis i 0 b hi hb (hrow b e.symm))
 refine ⟨?_,(h.o1.keep (hk 1 · (by omega))).mono fun b hb=> .inl hb,(h.o2.keep (hk 2 · (by omega))).mono fun b hb=> .inl hb,(h.o3.keep (hk 3 · (by omega))).mono fun b hb=> .inl hb,(h.o4.keep (hk 4 · (by omega))).mono fun b hb=> .inl hb,(h.o5.keep (hk 5 · (by omega))).mono fun b hb=> .inl hb,addG_dis h.dis h.lt,fun i b hb=>?_⟩
 ·exact ozl_flat_app h.o0 (by rw [List.flatMap_append];exact hown) hat (fun b hb=> .inl hb) fun b e hl=> .inr ⟨rfl,by omega,hl⟩
 ·rcases hb with hb|hb
  ·exact Nat.lt_of_lt_of_le (h.lt i b hb) hg.size
  ·exact hb.2.2
theorem ozl_flat_at {T:Type}[Inhabited T]{k:Nat}{f:T→List Value}{hf:∀x,(f x).length=k}{E:TypeId}{F:Nat→Prop}{w:World}{A:Option Addr}{n c:Nat}{xs:List T}(h:OZl (OCod.flat k f hf) E F w (.slice A n c) xs){i:Nat}(hi:i < xs.length):
  ∃g,A=some ⟨g,0,none⟩∧F g∧g < w.heap.size∧(∀j u,(f (nth xs i))[j]?=some u→w.cell? ⟨g,i*k+j,none⟩=some u)∧(∀o,w.frozen? ⟨g,o,none⟩=false)∧
   (∀j u x',j < k→f x'=(f (nth xs i)).set j u→OZl (OCod.flat k f hf) E F (w.setCell ⟨g,i*k+j,none⟩ u) (.slice A n c) (xs.set i x')):=by
 obtain ⟨h1,h2⟩:=ozl_flat.1 h
 obtain ⟨A',c',hv,_,_,_,hl,hcase⟩:=ownZ_form h1
 injection hv with e1 e2 e3
 subst e1;subst e2;subst e3
 rcases hcase with ⟨h0,_,_⟩|⟨g,rfl,hc0,hr,hg,hcs,ho⟩
 ·omega
 ·refine ⟨g,rfl,h2 g hr,hg,fun j u hu=>?_,fun o=>?_,fun j u x' hj hx=>?_⟩
  ·have hjk:j < k:=by have:=(List.getElem?_eq_some_iff.1 hu).1;rw [hf] at this;exact this
   have hx:=hcs (i*k+j) u (by rw [nth_eq hi] at hu;rw [List.flatMap];exact flatten_slot (k:=k) (xs.map f) i (f xs[i]) (by intro e he;obtain ⟨x,_,rfl⟩:=List.mem_map.1 he;exact hf x) (by rw [List.getElem?_map,List.getElem?_eq_getElem hi];rfl) j u hu)
   rwa [Nat.zero_add] at hx
  ·obtain ⟨_,ho⟩:=ho
   rcases ho with ⟨ho,_⟩|⟨g',cap,cur,hv,_,hh,_⟩
   ·cases ho
   ·injection hv with e1 _ _
    injection e1 with e1;injection e1 with e1
    subst e1
    exact (blk hh).2.1 o
  ·refine ozl_flat.2 ⟨?_,h2⟩
   have hlt:i*k+j < (xs.flatMap f).length:=by
    rw [hl]
    have:i*k+k≤xs.length*k:=by rw [← Nat.succ_mul];exact Nat.mul_le_mul_right _ hi
    omega
   have:=ownZ_set h1 hlt u
   rw [flatMap_set hf xs i j u x' hi hj hx] at this
   rwa [List.length_set]
theorem DomO.setCell {G:Nat→Nat→Prop}{w:World}{d:TDom}{T:TDomS}(h:DomO G w d T){p:Addr}{u:Value}(hp:∀i,¬ G i p.block):DomO G (w.setCell p u) d T:=
 h.keep (fun i b hb=>Below.heap_setCell _ _ _ _ (fun e=>hp i (by rw [← e];exact hb))) (by simp)
theorem DomO.released {G:Nat→Nat→Prop}{w:World}{d:TDom}{T:TDomS}(h:DomO G w d T){i:Nat}(hi:i < d.released.length):
  ∃g,T.a1=some ⟨g,0,none⟩∧G 1 g∧g < w.heap.size∧w.cell? ⟨g,i,none⟩=some (.int .i64 (nth d.released i))∧(∀o,w.frozen? ⟨g,o,none⟩=false)∧
   ∀x:Int,DomO G (w.setCell ⟨g,i,none⟩ (.int .i64 x)) {d with released:=d.released.set i x} T:=by
 obtain ⟨g,e,hG,hg,hc,hf,hset⟩:=ozl_flat_at h.o1 hi
 refine ⟨g,e,hG,hg,by have:=hc 0 _ rfl;simpa using this,hf,fun x=>?_⟩
 have hk:∀k b,k≠1→G k b→(w.setCell ⟨g,i,none⟩ (.int .i64 x)).heap[b]?=w.heap[b]?:=fun k b hk hb=>Below.heap_setCell _ _ _ _ (fun e2=>h.dis k 1 b hk hb (by rw [e2];exact hG))
 have hs:=hset 0 (.int .i64 x) x (by omega) rfl
 rw [show i*1+0=i by omega] at hs
 refine ⟨h.o0.keep (hk 0 · (by omega)),?_,h.o2.keep (hk 2 · (by omega)),h.o3.keep (hk 3 · (by omega)),h.o4.keep (hk 4 · (by omega)),h.o5.keep (hk 5 · (by omega)),h.dis,fun k b hb=>by simpa using h.lt k b hb⟩
 simp only [List.length_set]
 exact hs
theorem DomO.taken {G:Nat→Nat→Prop}{w:World}{d:TDom}{T:TDomS}(h:DomO G w d T){i:Nat}(hi:i < d.taken.length):
  ∃g,T.a3=some ⟨g,0,none⟩∧G 3 g∧g < w.heap.size∧w.cell? ⟨g,i,none⟩=some (.int .i64 (nth d.taken i))∧(∀o,w.frozen? ⟨g,o,none⟩=false)∧
   ∀x:Int,DomO G (w.setCell ⟨g,i,none⟩ (.int .i64 x)) {d with taken:=d.taken.set i x} T:=by
 obtain ⟨g,e,hG,hg,hc,hf,hset⟩:=ozl_flat_at h.o3 hi
 refine ⟨g,e,hG,hg,by have:=hc 0 _ rfl;simpa using this,hf,fun x=>?_⟩
 have hk:∀k b,k≠3→G k b→(w.setCell ⟨g,i,none⟩ (.int .i64 x)).heap[b]?=w.heap[b]?:=fun k b hk hb=>Below.heap_setCell _ _ _ _ (fun e2=>h.dis k 3 b hk hb (by rw [e2];exact hG))
 have hs:=hset 0 (.int .i64 x) x (by omega) rfl
 rw [show i*1+0=i by omega] at hs
 refine ⟨h.o0.keep (hk 0 · (by omega)),h.o1.keep (hk 1 · (by omega)),h.o2.keep (hk 2 · (by omega)),?_,h.o4.keep (hk 4 · (by omega)),h.o5.keep (hk 5 · (by omega)),h.dis,fun k b hb=>by simpa using h.lt k b hb⟩
 simp only [List.length_set]
 exact hs
theorem DomO.job {G:Nat→Nat→Prop}{w:World}{d:TDom}{T:TDomS}(h:DomO G w d T){i:Nat}(hi:i < d.jobs.length):
  ∃g,T.a0=some ⟨g,0,none⟩∧G 0 g∧g < w.heap.size∧(∀j u,(nth d.jobs i).cells[j]?=some u→w.cell? ⟨g,i*6+j,none⟩=some u)∧(∀o,w.frozen? ⟨g,o,none⟩=false)∧
   ∀j u x',j < 6→TJob.cells x'=(nth d.jobs i).cells.set j u→DomO G (w.setCell ⟨g,i*6+j,none⟩ u) {d with jobs:=d.jobs.set i x'} T:=by
 obtain ⟨g,e,hG,hg,hc,hf,hset⟩:=ozl_flat_at h.o0 hi
 refine ⟨g,e,hG,hg,hc,hf,fun j u x' hj hx=>?_⟩
 have hk:∀k b,k≠0→G k b→(w.setCell ⟨g,i*6+j,none⟩ u).heap[b]?=w.heap[b]?:=fun k b hk hb=>Below.heap_setCell _ _ _ _ (fun e2=>h.dis k 0 b hk hb (by rw [e2];exact hG))
 have hs:=hset j u x' hj hx
 refine ⟨?_,h.o1.keep (hk 1 · (by omega)),h.o2.keep (hk 2 · (by omega)),h.o3.keep (hk 3 · (by omega)),h.o4.keep (hk 4 · (by omega)),h.o5.keep (hk 5 · (by omega)),h.dis,fun k b hb=>by simpa using h.lt k b hb⟩
 simp only [List.length_set]
 exact hs
end
end Go.Proofs.YtinlmkhlgclbfabDoor
