/- RegInv RegInvF -/
import Derived.Test.YtinlmkhlgclbfabWv11
import Derived.OrdersIn
namespace Go.Proofs.Ytinlmkhlgclbfab
open Go.RowKit
section
def Lst (l:Array Bool) (i:Nat):Prop:=l.getD i false=true
theorem Lst.back {l:Array Bool}{i j:Nat}(h:Lst (l.setIfInBounds i true) j)(hne:i≠j):Lst l j:=by
 unfold Lst at*
 rwa [Array.getD_eq_getD_getElem?,Array.getElem?_setIfInBounds_ne hne,← Array.getD_eq_getD_getElem?] at h
theorem Lst.b {l:Array Bool}{i j:Nat}(h:Lst (l.setIfInBounds i true) j)(hne:i≠j:=by decide):Lst l j:=h.back hne
theorem Lst.self {l:Array Bool}{i:Nat}(h:i < l.size):Lst (l.setIfInBounds i true) i:=by
 unfold Lst
 rw [Array.getD_eq_getD_getElem?,Array.getElem?_setIfInBounds]
 simp [h]
theorem Lst.fwd {l:Array Bool}{i j:Nat}(h:Lst l j):Lst (l.setIfInBounds i true) j:=by
 unfold Lst at*
 rw [Array.getD_eq_getD_getElem?] at*
 rw [Array.getElem?_setIfInBounds]
 split
 ·rename_i e
  subst e
  cases hj:l[i]? with
  |none=>rw [hj] at h;simp at h
  |some b=>have:=(Array.getElem?_eq_some_iff.1 hj).1;simp [this]
 ·exact h
structure Fa (l:Array Bool) (i:Nat) (p:Prop):Prop where
 out:Lst l i→p
theorem Fa.no {l:Array Bool}{i:Nat}{p:Prop}(h:¬ Lst l i):Fa l i p:=⟨fun hl=>absurd hl h⟩
theorem Fa.k {l:Array Bool}{i j:Nat}{p:Prop}(h:Fa l j p)(hne:i≠j:=by decide):Fa (l.setIfInBounds i true) j p:=⟨fun hl=>h.out (hl.back hne)⟩
theorem Fa.m {l:Array Bool}{i j:Nat}{p q:Prop}(h:Fa l j p)(hq:p→q:=by repeat' (first|exact id|exact Lst.fwd|refine And.imp ?_ ?_|exact fun h hn=>h fun h2=>hn h2.fwd|refine Exists.imp fun _=>?_))(hne:i≠j:=by decide):Fa (l.setIfInBounds i true) j q:=⟨fun hl=>hq (h.out (hl.back hne))⟩
def putF (a:Act):List Nat→(Nat→Value)→Act
 |[],_=>a
 |s::l,f=>(putF a l f).put (some s) (f s)
theorem pfs:(∀(a:Act) (f:Nat→Value),putF a [] f=a)∧(∀(a:Act) (s:Nat) (l:List Nat) (f:Nat→Value),putF a (s::l) f=(putF a l f).put (some s) (f s))∧(∀(a:Act) (s:Nat) (v:Value),a.put (some s) v= {a with tmps:=a.tmps.setIfInBounds s v})∧(∀(a:Act) (v:Value),a.put none v=a)∧(∀(l:List Value) (i:Nat) (v:Value),l.toArray.setIfInBounds i v=(l.set i v).toArray)∧(∀(a b:Value) (l:List Value),(a::l).set 0 b=b::l)∧(∀(a b:Value) (l:List Value) (n:Nat),(a::l).set (n+1) b=a::l.set n b):=
 ⟨fun _ _=>rfl,fun _ _ _ _=>rfl,fun _ _ _=>rfl,fun _ _=>rfl,fun _ _ _=>List.setIfInBounds_toArray _ _ _,fun _ _ _=>rfl,fun _ _ _ _=>rfl⟩
theorem byOp {p:Prop}(hp:p:=by
 intro l f W hR hn hb K Q2 hK
 obtain ⟨hS,hR⟩:=hR
 clear hb
 refine ⟨?_⟩
 simp only [pfs] at hK⊢
 go_simp
 refine hK.out _ _ ⟨?_,?_⟩
 ·first
   |exact hS
   |(simp only [Array.size_setIfInBounds];exact hS)
   |(revert hS;repeat' (first|exact id|(simp only [Array.size_setIfInBounds];exact id)|exact fun h hn=>h fun h2=>hn h2.fwd|exact Lst.fwd|refine Or.imp ?_ ?_|refine And.imp ?_ ?_))
 ·revert hR
  repeat' (first|exact fun h=>h.k|exact fun _=>⟨fun _=>rfl⟩|exact fun h=>h.m|refine And.imp ?_ ?_)):p:=hp
theorem byK {p:Prop}(hp:p:=by repeat' (first|refine And.intro ?_ ?_|exact Fa.k (by assumption)|exact ⟨fun _=>rfl⟩|exact Fa.m (by assumption)|assumption|(simp only [Array.size_setIfInBounds];assumption)|exact hO.imp Lst.fwd id|exact hS|exact hS.1|exact hS.2|exact hS.2.1|exact hS.2.2|exact hS.2.2.1|exact hS.2.2.2|exact hS.2.2.2.1|exact hS.2.2.2.2|exact hS.2.2.2.2.1|exact hS.2.2.2.2.2|exact hS.2.2.2.2.2.1|exact hS.2.2.2.2.2.2|exact hS.2.2.2.2.2.2.1|exact hS.2.2.2.2.2.2.2|exact hS.2.2.2.2.2.2.2.1|(simp only [Array.size_setIfInBounds];first|exact hS|exact hS.1|exact hS.2|exact hS.2.1|exact hS.2.2|exact hS.2.2.1|exact hS.2.2.2|exact hS.2.2.2.1|exact hS.2.2.2.2|exact hS.2.2.2.2.1|exact hS.2.2.2.2.2|exact hS.2.2.2.2.2.1|exact hS.2.2.2.2.2.2|exact hS.2.2.2.2.2.2.1|exact hS.2.2.2.2.2.2.2|exact hS.2.2.2.2.2.2.2.1)|exact Or.imp Lst.fwd id hS|exact fun h=>hS fun h2=>h h2.fwd|exact Or.imp Lst.fwd id hS.1|exact fun h=>hS.1 fun h2=>h h2.fwd|exact Or.imp Lst.fwd id hS.2|exact fun h=>hS.2 fun h2=>h h2.fwd|exact Or.imp Lst.fwd id hS.2.1|exact fun h=>hS.2.1 fun h2=>h h2.fwd|exact Or.imp Lst.fwd id hS.2.2|exact fun h=>hS.2.2 fun h2=>h h2.fwd|exact Or.imp Lst.fwd id hS.2.2.1|exact fun h=>hS.2.2.1 fun h2=>h h2.fwd|exact Or.imp Lst.fwd id hS.2.2.2|exact fun h=>hS.2.2.2 fun h2=>h h2.fwd|exact Or.imp Lst.fwd id hS.2.2.2.1|exact fun h=>hS.2.2.2.1 fun h2=>h h2.fwd|exact Or.imp Lst.fwd id hS.2.2.2.2|exact fun h=>hS.2.2.2.2 fun h2=>h h2.fwd|exact Or.imp Lst.fwd id hS.2.2.2.2.1|exact fun h=>hS.2.2.2.2.1 fun h2=>h h2.fwd|exact Or.imp Lst.fwd id hS.2.2.2.2.2|exact fun h=>hS.2.2.2.2.2 fun h2=>h h2.fwd|exact Or.imp Lst.fwd id hS.2.2.2.2.2.1|exact fun h=>hS.2.2.2.2.2.1 fun h2=>h h2.fwd|exact Or.imp Lst.fwd id hS.2.2.2.2.2.2|exact fun h=>hS.2.2.2.2.2.2 fun h2=>h h2.fwd|exact Or.imp Lst.fwd id hS.2.2.2.2.2.2.1|exact fun h=>hS.2.2.2.2.2.2.1 fun h2=>h h2.fwd|exact Or.imp Lst.fwd id hS.2.2.2.2.2.2.2|exact fun h=>hS.2.2.2.2.2.2.2 fun h2=>h h2.fwd|exact Or.imp Lst.fwd id hS.2.2.2.2.2.2.2.1|exact fun h=>hS.2.2.2.2.2.2.2.1 fun h2=>h h2.fwd)):p:=hp
def upd (f:Nat→Value) (d:Option Nat) (v:Value):Nat→Value:=fun k=>if some k=d then v else f k
theorem put_put_same (a:Act)(s:Nat)(v u:Value):(a.put (some s) v).put (some s) u=a.put (some s) u:=by
 unfold Act.put;simp
theorem put_comm (a:Act){s t:Nat}(h:s≠t)(v u:Value):(a.put (some s) v).put (some t) u=(a.put (some t) u).put (some s) v:=by
 unfold Act.put;simp [Array.setIfInBounds_comm _ _ h]
theorem putF_congr (a:Act){f g:Nat→Value} :∀l:List Nat,(∀s∈l,f s=g s)→putF a l f=putF a l g:=by
 intro l
 induction l with
 |nil=>intro _;rfl
 |cons s l ih=>intro h;unfold putF;rw [ih fun t ht=>h t (by simp [ht]),h s (by simp)]
theorem putF_put (a:Act)(f:Nat→Value)(d:Nat)(v:Value):∀l:List Nat,l.Nodup→d∈l→(putF a l f).put (some d) v=putF a l (upd f (some d) v):=by
 intro l
 induction l with
 |nil=>intro _ h;cases h
 |cons s l ih=>
  intro hn hd
  rw [List.nodup_cons] at hn
  unfold putF
  by_cases e:s=d
  ·subst e
   rw [put_put_same]
   rw [putF_congr a (g:=upd f (some s) v) l fun t ht=>?_]
   ·simp [upd]
   ·have:t≠s:=fun e=>hn.1 (e ▸ ht)
    simp [upd,this]
  ·rw [put_comm _ e,ih hn.2 (by simpa [Ne.symm e] using hd)]
   simp [upd,e]
theorem putF_self (a:Act):∀l:List Nat,(∀s∈l,s < a.tmps.size)→putF a l (fun s=>a.tmps.getD s undef)=a:=by
 intro l
 induction l with
 |nil=>intro _;rfl
 |cons s l ih=>
  intro h
  unfold putF
  rw [ih fun t ht=>h t (by simp [ht])]
  have hs:=h s (by simp)
  unfold Act.put
  cases a with
  |mk t d=>
   simp only at hs⊢
   congr 1
   refine Array.ext (by simp) fun i h1 h2=>?_
   rw [Array.getElem_setIfInBounds]
   split
   ·rename_i e;subst e;simp [hs]
   ·rfl
theorem put_none (a:Act)(v:Value):a.put none v=a:=rfl
def befores (o:Oper):List Nat:=(o.after.toList.filter (Region.binds .any)).map (·.on)
def topoB (ops:Array Oper):Bool:=(List.range ops.size).all fun i=>((ops[i]?).map fun o=>o.after.all fun e=>!Region.binds .any e||decide (e.on < i)).getD true
section
variable {P : Program} {ops : Array Oper} {Q : Exit → Act → World → Prop}
theorem ready_iff {l:Array Bool}{i:Nat}(hz:l.size=ops.size):i∈Region.ready .any ops l→∃o,ops[i]?=some o∧¬ Lst l i∧∀j∈befores o,Lst l j:=by
 intro h
 unfold Region.ready at h
 simp only [List.mem_filter,List.mem_range,Bool.and_eq_true,Bool.not_eq_true'] at h
 obtain ⟨h1,h2,h3⟩:=h
 have ho:ops[i]?=some ops[i]:=Array.getElem?_eq_getElem h1
 rw [ho] at h3
 simp only [Option.map_some,Option.getD_some,Array.all_eq_true] at h3
 refine ⟨ops[i],ho,?_,fun j hj=>?_⟩
 ·unfold Lst
  have:i < l.size:=by omega
  simp [Array.getD,this] at h2⊢
  exact h2
 ·unfold befores at hj
  simp only [List.mem_map,List.mem_filter] at hj
  obtain ⟨e,⟨he,hb⟩,rfl⟩:=hj
  obtain ⟨k,hk,rfl⟩:=List.getElem_of_mem he
  have:=h3 k (by simpa using hk)
  simp only [Array.getElem_toList] at hb⊢
  rw [hb] at this
  simpa [Lst] using this
theorem ready_nil {l:Array Bool}(hz:l.size=ops.size)(ht:topoB ops=true)(h:Region.ready .any ops l=[]):∀i,i < ops.size→Lst l i:=by
 intro i
 induction i using Nat.strongRecOn with
 |_ i ih=>
  intro hi
  refine Classical.byContradiction fun hn=>?_
  have:i∈Region.ready .any ops l:=by
   unfold Region.ready
   simp only [List.mem_filter,List.mem_range,Bool.and_eq_true,Bool.not_eq_true']
   refine ⟨hi,?_,?_⟩
   ·unfold Lst at hn
    have h2:i < l.size:=by omega
    simp [Array.getD,h2] at hn⊢
    exact hn
   ·have ho:ops[i]?=some ops[i]:=Array.getElem?_eq_getElem hi
    rw [ho]
    simp only [Option.map_some,Option.getD_some,Array.all_eq_true]
    intro k hk
    unfold topoB at ht
    rw [List.all_eq_true] at ht
    have h3:=ht i (List.mem_range.2 hi)
    rw [ho] at h3
    simp only [Option.map_some,Option.getD_some,Array.all_eq_true] at h3
    have h3:=h3 k hk
    cases hb:Region.binds .any (ops[i].after[k]) with
    |false=>simp
    |true=>
     rw [hb] at h3
     have h3:=of_decide_eq_true (by simpa using h3)
     have h4:=ih _ h3 (by omega)
     unfold Lst at h4
     rw [h4];simp
  rw [h] at this;cases this
def StepsI (P:Program) (ops:Array Oper) (Q:Exit→Act→World→Prop) (R:Array Bool→(Nat→Value)→World→Prop) (a:Act) (sl:List Nat) (is:List Nat):Prop:=
 ∀i∈is,∀o,ops[i]?=some o→∀l f w,R l f w→¬ Lst l i→(∀j∈befores o,Lst l j)→(∀d,o.dst=some d→d∈sl)∧wpOp P ops Q i (fun a' w'=>∃v,a'=(putF a sl f).put o.dst v∧R (l.setIfInBounds i true) (upd f o.dst v) w') (putF a sl f) w
theorem StepsI.nil {R:Array Bool→(Nat→Value)→World→Prop}{a:Act}{sl:List Nat} :StepsI P ops Q R a sl []:=fun _ h=>by cases h
theorem StepsI.cons {R:Array Bool→(Nat→Value)→World→Prop}{a:Act}{sl:List Nat}{i:Nat}{o:Oper}{is:List Nat}(bs:List Nat)(ho:ops[i]?=some o)(hb:befores o=bs)(hg:o.guard=none)(hd:∀d,o.dst=some d→d∈sl)
  (h:∀l f w,R l f w→¬ Lst l i→(∀j∈bs,Lst l j)→∀K:Act→World→Prop,Hid (∀v w',R (l.setIfInBounds i true) (upd f o.dst v) w'→K ((putF a sl f).put o.dst v) w')→Oper.wp P o (putF a sl f) w K Q)
  (hs:StepsI P ops Q R a sl is):StepsI P ops Q R a sl (i::is):=fun j hj=>by
 rcases List.mem_cons.1 hj with rfl|hj
 ·intro o' ho' l f w hR hn hl
  rw [ho] at ho'
  injection ho' with ho'
  subst ho'
  refine ⟨hd,wpOp_step ho (fun K' hK=>?_)⟩
  have hw:Region.wanted o (yielded ops (putF a sl f).tmps)=true:=by simp [Region.wanted,hg]
  rw [if_pos hw]
  exact h l f w hR hn (by rw [← hb];exact hl) K' (zH fun v w' hR'=>hK _ _ ⟨v,rfl,hR'⟩)
 ·exact hs j hj
theorem count_set:∀(l:List Bool) (i:Nat),l[i]?=some false→(l.set i true).count false+1=l.count false:=by
 intro l
 induction l with
 |nil=>intro i h;simp at h
 |cons b l ih=>
  intro i h
  cases i with
  |zero=>simp at h;subst h;simp [List.count_cons]
  |succ i=>
   simp only [List.set_cons_succ,List.count_cons]
   have:=ih i (by simpa using h)
   omega
theorem wpAny_inv {R:Array Bool→(Nat→Value)→World→Prop}{a:Act}{sl:List Nat}(hnd:sl.Nodup)(ht:topoB ops=true)(hs:StepsI P ops Q R a sl (List.range ops.size))
  (he:∀l f w,R l f w→(∀i,i < ops.size→Lst l i)→Q .normal (putF a sl f) w):
  ∀fuel (l:Array Bool) (f:Nat→Value) (w:World),l.size=ops.size→l.toList.count false≤fuel→R l f w→wpAny P .any ops Q fuel l (putF a sl f) w:=by
 intro fuel
 induction fuel with
 |zero=>
  intro l f w hz hc hR
  have hall:∀i,i < ops.size→Lst l i:=by
   intro i hi
   have hi':i < l.size:=by omega
   have h0:l.toList.count false=0:=by omega
   rw [List.count_eq_zero] at h0
   unfold Lst
   simp [Array.getD,hi']
   cases hb:l[i] with
   |true=>rfl
   |false=>exact absurd (by rw [← hb];simp) h0
  refine ⟨?_,he l f w hR hall⟩
  refine List.eq_nil_iff_forall_not_mem.2 fun i hi=>?_
  obtain ⟨o,ho,hn,_⟩:=ready_iff hz hi
  exact hn (hall i (Array.getElem?_eq_some_iff.1 ho).1)
 |succ fuel ih=>
  intro l f w hz hc hR
  refine ⟨fun hr=>he l f w hR (ready_nil hz ht hr),fun i hi=>?_⟩
  obtain ⟨o,ho,hn,hb⟩:=ready_iff hz hi
  have hlt:=(Array.getElem?_eq_some_iff.1 ho).1
  obtain ⟨hd,hw⟩:=hs i (List.mem_range.2 hlt) o ho l f w hR hn hb
  refine wpOp_mono (fun a' w' h=>?_) hw
  obtain ⟨v,rfl,hR'⟩:=h
  have hl':l.toList[i]?=some false:=by
   have h2:i < l.size:=by omega
   unfold Lst at hn
   simp [Array.getD,h2] at hn
   simp [h2,hn]
  have hc':(l.setIfInBounds i true).toList.count false≤fuel:=by
   rw [Array.toList_setIfInBounds]
   have:=count_set l.toList i hl'
   omega
  cases hdst:o.dst with
  |none=>
   rw [hdst] at hR'
   rw [put_none]
   have:upd f none v=f:=by funext k;simp [upd]
   rw [this] at hR'
   exact ih _ f w' (by simpa using hz) hc' hR'
  |some d=>
   rw [hdst] at hR'
   rw [putF_put a f d v sl hnd (hd d hdst)]
   exact ih _ _ w' (by simpa using hz) hc' hR'
structure Cov (p:Prop):Prop where
 out:p
def StepsL (P:Program) (R:Array Bool→(Nat→Value)→World→Prop) (a:Act) (sl:List Nat):Nat→List Oper→Prop
 |_,[]=>True
 |i,o::rest=>((∀d,o.dst=some d→d∈sl)∧∀l f w,R l f w→¬ Lst l i→(∀j∈befores o,Lst l j)→∀(K:Act→World→Prop) (Q':Exit→Act→World→Prop),Hid (∀v w',R (l.setIfInBounds i true) (upd f o.dst v) w'→K ((putF a sl f).put o.dst v) w')→(o.guard=none∧Oper.wp P o (putF a sl f) w K Q'))∧StepsL P R a sl (i+1) rest
theorem StepsL.cons {R:Array Bool→(Nat→Value)→World→Prop}{a:Act}{sl:List Nat}{i:Nat}{o:Oper}{rest:List Oper}(i':Nat)(bs:List Nat)(hi:i+1=i')(hb:befores o=bs)(hg:o.guard=none)(hd:∀d,o.dst=some d→d∈sl)
  (h:∀l f w,R l f w→¬ Lst l i→(∀j∈bs,Lst l j)→∀(K:Act→World→Prop) (Q':Exit→Act→World→Prop),Hid (∀v w',R (l.setIfInBounds i true) (upd f o.dst v) w'→K ((putF a sl f).put o.dst v) w')→Cov (Oper.wp P o (putF a sl f) w K Q'))
  (hs:StepsL P R a sl i' rest):StepsL P R a sl i (o::rest):=by
 subst hi;subst hb
 exact ⟨⟨hd,fun l f w hR hn hb K Q' hK=>⟨hg,(h l f w hR hn hb K Q' hK).out⟩⟩,hs⟩
theorem StepsL.c {R:Array Bool→(Nat→Value)→World→Prop}{a:Act}{sl:List Nat}{i:Nat}{o:Oper}{rest:List Oper}(i':Nat)(bs:List Nat)
  (h:∀l f w,R l f w→¬ Lst l i→(∀j∈bs,Lst l j)→∀(K:Act→World→Prop) (Q':Exit→Act→World→Prop),Hid (∀v w',R (l.setIfInBounds i true) (upd f o.dst v) w'→K ((putF a sl f).put o.dst v) w')→Cov (Oper.wp P o (putF a sl f) w K Q'))
  (hs:StepsL P R a sl i' rest) (hi:i+1=i':=by rfl) (hb:befores o=bs:=by kernel_rfl) (hg:o.guard=none:=by rfl) (hd:∀d,o.dst=some d→d∈sl:=by first|(intro d hd;injection hd with hd;subst hd;decide)|(intro d hd;cases hd)):StepsL P R a sl i (o::rest):=StepsL.cons i' bs hi hb hg hd h hs
theorem StepsL.nil {R:Array Bool→(Nat→Value)→World→Prop}{a:Act}{sl:List Nat}{i:Nat} :StepsL P R a sl i []:=trivial
theorem StepsL.at {R:Array Bool→(Nat→Value)→World→Prop}{a:Act}{sl:List Nat} :∀(rest:List Oper) (i:Nat),StepsL P R a sl i rest→∀j o,rest[j]?=some o→
  (∀d,o.dst=some d→d∈sl)∧∀l f w,R l f w→¬ Lst l (i+j)→(∀j∈befores o,Lst l j)→∀(K:Act→World→Prop) (Q':Exit→Act→World→Prop),Hid (∀v w',R (l.setIfInBounds (i+j) true) (upd f o.dst v) w'→K ((putF a sl f).put o.dst v) w')→(o.guard=none∧Oper.wp P o (putF a sl f) w K Q'):=by
 intro rest
 induction rest with
 |nil=>intro i _ j o h;simp at h
 |cons x rest ih=>
  intro i hs j o h
  cases j with
  |zero=>simp at h;subst h;exact hs.1
  |succ j=>
   have:=ih (i+1) hs.2 j o (by simpa using h)
   rw [show i+(j+1)=i+1+j by omega]
   exact this
theorem wp_region_inv {id:Nat}{a:Act}{w:World}{lo:List Oper}(sl:List Nat)(R:Array Bool→(Nat→Value)→World→Prop)(hm:P.follows .mixedOrders=true)(hnd:sl.Nodup)(ht:topoB lo.toArray=true)(hsz:∀s∈sl,s < a.tmps.size)
  (h0:∀l,l.size=lo.length→(∀i,¬ Lst l i)→R l (fun s=>a.tmps.getD s undef) w.drew) (hs:StepsL P R a sl 0 lo)
  (he:∀l f w,R l f w→(∀i,i < lo.length→Lst l i)→Q .normal (putF a sl f) w):(Code.region id lo.toArray true).wp P Q a w:=by
 refine wp_region_any hm ?_
 have hS:StepsI P lo.toArray Q R a sl (List.range lo.toArray.size):=by
  intro i hi o ho l f w hR hn hb
  have ho':lo[i]?=some o:=by simpa using ho
  obtain ⟨hd,h⟩:=StepsL.at lo 0 hs i o ho'
  rw [Nat.zero_add] at h
  refine ⟨hd,wpOp_step ho (fun K' hK=>?_)⟩
  obtain ⟨hg,hw⟩:=h l f w hR hn hb K' Q (zH fun v w' hR'=>hK _ _ ⟨v,rfl,hR'⟩)
  have hwt:Region.wanted o (yielded lo.toArray (putF a sl f).tmps)=true:=by simp [Region.wanted,hg]
  rw [if_pos hwt]
  exact hw
 have h:=wpAny_inv (P:=P) (Q:=Q) hnd ht hS (fun l f w hR hall=>he l f w hR fun i hi=>hall i (by simpa using hi)) lo.toArray.size (Array.replicate lo.toArray.size false) (fun s=>a.tmps.getD s undef) w.drew (by simp) (by simp) (h0 _ (by simp) fun i=>by unfold Lst;rw [Array.getD_eq_getD_getElem?,Array.getElem?_replicate];split<;>simp)
 rw [putF_self a sl hsz] at h
 exact h
end
section
variable {F : Fence} {n : Nat} {P : Program} {ops : Array Oper} {Q : Exit → Act → World → Prop}
def StepsFI (F:Fence) (n:Nat) (P:Program) (ops:Array Oper) (Q:Exit→Act→World→Prop) (R:Array Bool→(Nat→Value)→World→Prop) (a:Act) (sl:List Nat) (is:List Nat):Prop:=
 ∀i∈is,∀o,ops[i]?=some o→∀l f w,R l f w→¬ Lst l i→(∀j∈befores o,Lst l j)→(∀d,o.dst=some d→d∈sl)∧wpOpIn F n P ops Q i (fun a' w'=>∃v,a'=(putF a sl f).put o.dst v∧R (l.setIfInBounds i true) (upd f o.dst v) w') (putF a sl f) w
theorem wpAnyIn_inv {R:Array Bool→(Nat→Value)→World→Prop}{a:Act}{sl:List Nat}(hnd:sl.Nodup)(ht:topoB ops=true)(hs:StepsFI F n P ops Q R a sl (List.range ops.size))
  (he:∀l f w,R l f w→(∀i,i < ops.size→Lst l i)→Q .normal (putF a sl f) w):
  ∀fuel (l:Array Bool) (f:Nat→Value) (w:World),l.size=ops.size→l.toList.count false≤fuel→R l f w→wpAnyIn F n P .any ops Q fuel l (putF a sl f) w:=by
 intro fuel
 induction fuel with
 |zero=>
  intro l f w hz hc hR
  have hall:∀i,i < ops.size→Lst l i:=by
   intro i hi
   have hi':i < l.size:=by omega
   have h0:l.toList.count false=0:=by omega
   rw [List.count_eq_zero] at h0
   unfold Lst
   simp [Array.getD,hi']
   cases hb:l[i] with
   |true=>rfl
   |false=>exact absurd (by rw [← hb];simp) h0
  refine ⟨?_,he l f w hR hall⟩
  refine List.eq_nil_iff_forall_not_mem.2 fun i hi=>?_
  obtain ⟨o,ho,hn,_⟩:=ready_iff hz hi
  exact hn (hall i (Array.getElem?_eq_some_iff.1 ho).1)
 |succ fuel ih=>
  intro l f w hz hc hR
  refine ⟨fun hr=>he l f w hR (ready_nil hz ht hr),fun i hi=>?_⟩
  obtain ⟨o,ho,hn,hb⟩:=ready_iff hz hi
  have hlt:=(Array.getElem?_eq_some_iff.1 ho).1
  obtain ⟨hd,hw⟩:=hs i (List.mem_range.2 hlt) o ho l f w hR hn hb
  refine wpOpIn_mono (fun a' w' h=>?_) hw
  obtain ⟨v,rfl,hR'⟩:=h
  have hl':l.toList[i]?=some false:=by
   have h2:i < l.size:=by omega
   unfold Lst at hn
   simp [Array.getD,h2] at hn
   simp [h2,hn]
  have hc':(l.setIfInBounds i true).toList.count false≤fuel:=by
   rw [Array.toList_setIfInBounds]
   have:=count_set l.toList i hl'
   omega
  cases hdst:o.dst with
  |none=>
   rw [hdst] at hR'
   rw [put_none]
   have:upd f none v=f:=by funext k;simp [upd]
   rw [this] at hR'
   exact ih _ f w' (by simpa using hz) hc' hR'
  |some d=>
   rw [hdst] at hR'
   rw [putF_put a f d v sl hnd (hd d hdst)]
   exact ih _ _ w' (by simpa using hz) hc' hR'
def StepF (F:Fence) (n:Nat) (P:Program) (ops:Array Oper) (Q:Exit→Act→World→Prop) (R:Array Bool→(Nat→Value)→World→Prop) (a:Act) (sl:List Nat) (i:Nat) (o:Oper):Prop:=
 (∀d,o.dst=some d→d∈sl)∧∀l f w,R l f w→¬ Lst l i→(∀j∈befores o,Lst l j)→∀K:Act→World→Prop,Hid (∀v w',R (l.setIfInBounds i true) (upd f o.dst v) w'→K ((putF a sl f).put o.dst v) w')→
  if Region.wanted o (yielded ops (putF a sl f).tmps)=true then Oper.wpIn F n P o (putF a sl f) w K Q else (∀f',o.about P w (putF a sl f).eval=some f'→F.fn f')∧K ((putF a sl f).put o.dst undef) w
theorem StepF.plain {R:Array Bool→(Nat→Value)→World→Prop}{a:Act}{sl:List Nat}{i:Nat}{o:Oper}(bs:List Nat)(hb:befores o=bs)(hg:o.guard=none)(hd:∀d,o.dst=some d→d∈sl)
  (h:∀l f w,R l f w→¬ Lst l i→(∀j∈bs,Lst l j)→∀K:Act→World→Prop,Hid (∀v w',R (l.setIfInBounds i true) (upd f o.dst v) w'→K ((putF a sl f).put o.dst v) w')→Cov (Oper.wpIn F n P o (putF a sl f) w K Q)):StepF F n P ops Q R a sl i o:=by
 subst hb
 refine ⟨hd,fun l f w hR hn hb K hK=>?_⟩
 rw [if_pos (by simp [Region.wanted,hg])]
 exact (h l f w hR hn hb K hK).out
theorem StepF.wanted {R:Array Bool→(Nat→Value)→World→Prop}{a:Act}{sl:List Nat}{i:Nat}{o:Oper}(bs:List Nat)(hb:befores o=bs)(hd:∀d,o.dst=some d→d∈sl)
  (h:∀l f w,R l f w→¬ Lst l i→(∀j∈bs,Lst l j)→Region.wanted o (yielded ops (putF a sl f).tmps)=true∧∀K:Act→World→Prop,Hid (∀v w',R (l.setIfInBounds i true) (upd f o.dst v) w'→K ((putF a sl f).put o.dst v) w')→Cov (Oper.wpIn F n P o (putF a sl f) w K Q)):StepF F n P ops Q R a sl i o:=by
 subst hb
 refine ⟨hd,fun l f w hR hn hb K hK=>?_⟩
 obtain ⟨hw,h2⟩:=h l f w hR hn hb
 rw [if_pos hw]
 exact (h2 K hK).out
theorem StepF.skipped {R:Array Bool→(Nat→Value)→World→Prop}{a:Act}{sl:List Nat}{i:Nat}{o:Oper}(bs:List Nat)(hb:befores o=bs)(hd:∀d,o.dst=some d→d∈sl)(hF:∀f,F.fn f)
  (h:∀l f w,R l f w→¬ Lst l i→(∀j∈bs,Lst l j)→Region.wanted o (yielded ops (putF a sl f).tmps)=false∧R (l.setIfInBounds i true) (upd f o.dst undef) w):StepF F n P ops Q R a sl i o:=by
 subst hb
 refine ⟨hd,fun l f w hR hn hb K hK=>?_⟩
 obtain ⟨hw,h2⟩:=h l f w hR hn hb
 rw [if_neg (by rw [hw];decide)]
 exact ⟨fun f' _=>hF f',hK.out _ _ h2⟩
def StepsF (F:Fence) (n:Nat) (P:Program) (ops:Array Oper) (Q:Exit→Act→World→Prop) (R:Array Bool→(Nat→Value)→World→Prop) (a:Act) (sl:List Nat):Nat→List Oper→Prop
 |_,[]=>True
 |i,o::rest=>StepF F n P ops Q R a sl i o∧StepsF F n P ops Q R a sl (i+1) rest
theorem StepsF.nil {R:Array Bool→(Nat→Value)→World→Prop}{a:Act}{sl:List Nat}{i:Nat} :StepsF F n P ops Q R a sl i []:=trivial
theorem StepsF.cons {R:Array Bool→(Nat→Value)→World→Prop}{a:Act}{sl:List Nat}{i:Nat}{o:Oper}{rest:List Oper}(i':Nat)(hi:i+1=i')(h:StepF F n P ops Q R a sl i o)(hs:StepsF F n P ops Q R a sl i' rest):StepsF F n P ops Q R a sl i (o::rest):=by
 subst hi;exact ⟨h,hs⟩
theorem StepsF.at {R:Array Bool→(Nat→Value)→World→Prop}{a:Act}{sl:List Nat} :∀(rest:List Oper) (i:Nat),StepsF F n P ops Q R a sl i rest→∀j o,rest[j]?=some o→StepF F n P ops Q R a sl (i+j) o:=by
 intro rest
 induction rest with
 |nil=>intro i _ j o h;simp at h
 |cons x rest ih=>
  intro i hs j o h
  cases j with
  |zero=>simp at h;subst h;exact hs.1
  |succ j=>
   have:=ih (i+1) hs.2 j o (by simpa using h)
   rw [show i+(j+1)=i+1+j by omega]
   exact this
theorem wpIn_region_inv {id:Nat}{a:Act}{w:World}{lo:List Oper}(sl:List Nat)(R:Array Bool→(Nat→Value)→World→Prop)(hm:P.follows .mixedOrders=true)(hnd:sl.Nodup)(ht:topoB lo.toArray=true)(hsz:∀s∈sl,s < a.tmps.size)
  (h0:∀l,l.size=lo.length→(∀i,¬ Lst l i)→R l (fun s=>a.tmps.getD s undef) w.drew) (hs:StepsF F n P lo.toArray Q R a sl 0 lo)
  (he:∀l f w,R l f w→(∀i,i < lo.length→Lst l i)→Q .normal (putF a sl f) w):(Code.region id lo.toArray true).wpIn F n P Q a w:=by
 refine wpIn_region_any hm ?_
 have hS:StepsFI F n P lo.toArray Q R a sl (List.range lo.toArray.size):=by
  intro i hi o ho l f w hR hn hb
  have ho':lo[i]?=some o:=by simpa using ho
  obtain ⟨hd,h⟩:=StepsF.at lo 0 hs i o ho'
  rw [Nat.zero_add] at h
  exact ⟨hd,wpOpIn_step ho (fun K' hK=>h l f w hR hn hb K' (zH fun v w' hR'=>hK _ _ ⟨v,rfl,hR'⟩))⟩
 have h:=wpAnyIn_inv (F:=F) (n:=n) (P:=P) (Q:=Q) hnd ht hS (fun l f w hR hall=>he l f w hR fun i hi=>hall i (by simpa using hi)) lo.toArray.size (Array.replicate lo.toArray.size false) (fun s=>a.tmps.getD s undef) w.drew (by simp) (by simp) (h0 _ (by simp) fun i=>by unfold Lst;rw [Array.getD_eq_getD_getElem?,Array.getElem?_replicate];split<;>simp)
 rw [putF_self a sl hsz] at h
 exact h
end
end
end Go.Proofs.Ytinlmkhlgclbfab
