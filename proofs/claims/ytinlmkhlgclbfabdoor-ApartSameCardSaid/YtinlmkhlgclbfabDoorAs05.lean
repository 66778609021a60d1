/- RegInv to DomP -/
import Derived.Test.YtinlmkhlgclbfabDoorAs04
namespace Go.Proofs.YtinlmkhlgclbfabDoor
open Go.RowKit
section
def Lst (l:Array Bool) (i:Nat):Prop:=l.getD i false=true
theorem Lst.back {l:Array Bool}{i j:Nat}(h:Lst (l.setIfInBounds i true) j)(hne:i≠j):Lst l j:=by
 unfold Lst at*
 rwa [Array.getD_eq_getD_getElem?,Array.getElem?_setIfInBounds_ne hne,← Array.getD_eq_getD_getElem?] at h
theorem Lst.b {l:Array Bool}{i j:Nat}(h:Lst (l.setIfInBounds i true) j)(hne:i≠j:=by decide):Lst l j:=h.back hne
theorem Lst.self {l:Array Bool}{i:Nat}(h:i < l.size):Lst (l.setIfInBounds i true) i:=by
 unfold Lst
 rw [Array.getD_eq_getD_getElem?,Array.getElem?_setIfInBounds]
 simp [h]
theorem Lst.fwd {l:Array Bool}{i j:Nat}(h:Lst l j):Lst (l.setIfInBounds i true) j:=by
 unfold Lst at*
 rw [Array.getD_eq_getD_getElem?] at*
 rw [Array.getElem?_setIfInBounds]
 split
 ·rename_i e
  subst e
  cases hj:l[i]? with
  |none=>rw [hj] at h;simp at h
  |some b=>have:=(Array.getElem?_eq_some_iff.1 hj).1;simp [this]
 ·exact h
structure Fa (l:Array Bool) (i:Nat) (p:Prop):Prop where
 out:Lst l i→p
theorem Fa.no {l:Array Bool}{i:Nat}{p:Prop}(h:¬ Lst l i):Fa l i p:=⟨fun hl=>absurd hl h⟩
theorem Fa.k {l:Array Bool}{i j:Nat}{p:Prop}(h:Fa l j p)(hne:i≠j:=by decide):Fa (l.setIfInBounds i true) j p:=⟨fun hl=>h.out (hl.back hne)⟩
theorem Fa.m {l:Array Bool}{i j:Nat}{p q:Prop}(h:Fa l j p)(hq:p→q:=by repeat' (first|exact id|exact Lst.fwd|refine And.imp ?_ ?_|exact fun h hn=>h fun h2=>hn h2.fwd|refine Exists.imp fun _=>?_))(hne:i≠j:=by decide):Fa (l.setIfInBounds i true) j q:=⟨fun hl=>hq (h.out (hl.back hne))⟩
def putF (a:Act):List Nat→(Nat→Value)→Act
 |[],_=>a
 |s::l,f=>(putF a l f).put (some s) (f s)
def upd (f:Nat→Value) (d:Option Nat) (v:Value):Nat→Value:=fun k=>if some k=d then v else f k
theorem pfs:(∀(a:Act) (f:Nat→Value),putF a [] f=a)∧(∀(a:Act) (s:Nat) (l:List Nat) (f:Nat→Value),putF a (s::l) f=(putF a l f).put (some s) (f s))∧(∀(a:Act) (s:Nat) (v:Value),a.put (some s) v= {a with tmps:=a.tmps.setIfInBounds s v})∧(∀(a:Act) (v:Value),a.put none v=a)∧(∀(l:List Value) (i:Nat) (v:Value),l.toArray.setIfInBounds i v=(l.set i v).toArray)∧(∀(a b:Value) (l:List Value),(a::l).set 0 b=b::l)∧(∀(a b:Value) (l:List Value) (n:Nat),(a::l).set (n+1) b=a::l.set n b):=
 ⟨fun _ _=>rfl,fun _ _ _ _=>rfl,fun _ _ _=>rfl,fun _ _=>rfl,fun _ _ _=>List.setIfInBounds_toArray _ _ _,fun _ _ _=>rfl,fun _ _ _ _=>rfl⟩
theorem byOp {p:Prop}(hp:p:=by
 intro l f W hR hn hb K Q2 hK
 obtain ⟨hS,hR⟩:=hR
 clear hb
 refine ⟨?_⟩
 simp only [pfs] at hK⊢
 go_simp
 refine hK.out _ _ ⟨?_,?_⟩
 ·first
   |exact hS
   |(simp only [Array.size_setIfInBounds];exact hS)
   |(revert hS;repeat' (first|exact id|(simp only [Array.size_setIfInBounds];exact id)|exact fun h hn=>h fun h2=>hn h2.fwd|exact Lst.fwd|refine Or.imp ?_ ?_|refine And.imp ?_ ?_))
 ·revert hR
  repeat' (first|exact fun h=>h.k|exact fun _=>⟨fun _=>rfl⟩|exact fun h=>h.m|refine And.imp ?_ ?_)):p:=hp
theorem byK {p:Prop}(hp:p:=by repeat' (first|refine And.intro ?_ ?_|exact Fa.k (by assumption)|exact ⟨fun _=>rfl⟩|exact Fa.m (by assumption)|assumption|(simp only [Array.size_setIfInBounds];assumption)|exact hO.imp Lst.fwd id|exact hS|exact hS.1|exact hS.2|exact hS.2.1|exact hS.2.2|exact hS.2.2.1|exact hS.2.2.2|exact hS.2.2.2.1|exact hS.2.2.2.2|exact hS.2.2.2.2.1|exact hS.2.2.2.2.2|exact hS.2.2.2.2.2.1|exact hS.2.2.2.2.2.2|exact hS.2.2.2.2.2.2.1|exact hS.2.2.2.2.2.2.2|exact hS.2.2.2.2.2.2.2.1|(simp only [Array.size_setIfInBounds];first|exact hS|exact hS.1|exact hS.2|exact hS.2.1|exact hS.2.2|exact hS.2.2.1|exact hS.2.2.2|exact hS.2.2.2.1|exact hS.2.2.2.2|exact hS.2.2.2.2.1|exact hS.2.2.2.2.2|exact hS.2.2.2.2.2.1|exact hS.2.2.2.2.2.2|exact hS.2.2.2.2.2.2.1|exact hS.2.2.2.2.2.2.2|exact hS.2.2.2.2.2.2.2.1)|exact Or.imp Lst.fwd id hS|exact fun h=>hS fun h2=>h h2.fwd|exact Or.imp Lst.fwd id hS.1|exact fun h=>hS.1 fun h2=>h h2.fwd|exact Or.imp Lst.fwd id hS.2|exact fun h=>hS.2 fun h2=>h h2.fwd|exact Or.imp Lst.fwd id hS.2.1|exact fun h=>hS.2.1 fun h2=>h h2.fwd|exact Or.imp Lst.fwd id hS.2.2|exact fun h=>hS.2.2 fun h2=>h h2.fwd|exact Or.imp Lst.fwd id hS.2.2.1|exact fun h=>hS.2.2.1 fun h2=>h h2.fwd|exact Or.imp Lst.fwd id hS.2.2.2|exact fun h=>hS.2.2.2 fun h2=>h h2.fwd|exact Or.imp Lst.fwd id hS.2.2.2.1|exact fun h=>hS.2.2.2.1 fun h2=>h h2.fwd|exact Or.imp Lst.fwd id hS.2.2.2.2|exact fun h=>hS.2.2.2.2 fun h2=>h h2.fwd|exact Or.imp Lst.fwd id hS.2.2.2.2.1|exact fun h=>hS.2.2.2.2.1 fun h2=>h h2.fwd|exact Or.imp Lst.fwd id hS.2.2.2.2.2|exact fun h=>hS.2.2.2.2.2 fun h2=>h h2.fwd|exact Or.imp Lst.fwd id hS.2.2.2.2.2.1|exact fun h=>hS.2.2.2.2.2.1 fun h2=>h h2.fwd|exact Or.imp Lst.fwd id hS.2.2.2.2.2.2|exact fun h=>hS.2.2.2.2.2.2 fun h2=>h h2.fwd|exact Or.imp Lst.fwd id hS.2.2.2.2.2.2.1|exact fun h=>hS.2.2.2.2.2.2.1 fun h2=>h h2.fwd|exact Or.imp Lst.fwd id hS.2.2.2.2.2.2.2|exact fun h=>hS.2.2.2.2.2.2.2 fun h2=>h h2.fwd|exact Or.imp Lst.fwd id hS.2.2.2.2.2.2.2.1|exact fun h=>hS.2.2.2.2.2.2.2.1 fun h2=>h h2.fwd)):p:=hp
theorem upd_at (f:Nat→Value)(d:Nat)(v:Value):upd f (some d) v d=v:=by simp [upd]
theorem upd_ne (f:Nat→Value){d e:Nat}(v:Value)(h:e≠d):upd f (some d) v e=f e:=by simp [upd,h]
theorem put_put_same (a:Act)(s:Nat)(v u:Value):(a.put (some s) v).put (some s) u=a.put (some s) u:=by
 unfold Act.put;simp
theorem put_comm (a:Act){s t:Nat}(h:s≠t)(v u:Value):(a.put (some s) v).put (some t) u=(a.put (some t) u).put (some s) v:=by
 unfold Act.put;simp [Array.setIfInBounds_comm _ _ h]
theorem putF_congr (a:Act){f g:Nat→Value} :∀l:List Nat,(∀s∈l,f s=g s)→putF a l f=putF a l g:=by
 intro l
 induction l with
 |nil=>intro _;rfl
 |cons s l ih=>intro h;unfold putF;rw [ih fun t ht=>h t (by simp [ht]),h s (by simp)]
theorem putF_put (a:Act)(f:Nat→Value)(d:Nat)(v:Value):∀l:List Nat,l.Nodup→d∈l→(putF a l f).put (some d) v=putF a l (upd f (some d) v):=by
 intro l
 induction l with
 |nil=>intro _ h;cases h
 |cons s l ih=>
  intro hn hd
  rw [List.nodup_cons] at hn
  unfold putF
  by_cases e:s=d
  ·subst e
   rw [put_put_same]
   rw [putF_congr a (g:=upd f (some s) v) l fun t ht=>?_]
   ·simp [upd]
   ·have:t≠s:=fun e=>hn.1 (e ▸ ht)
    simp [upd,this]
  ·rw [put_comm _ e,ih hn.2 (by simpa [Ne.symm e] using hd)]
   simp [upd,e]
theorem putF_self (a:Act):∀l:List Nat,(∀s∈l,s < a.tmps.size)→putF a l (fun s=>a.tmps.getD s undef)=a:=by
 intro l
 induction l with
 |nil=>intro _;rfl
 |cons s l ih=>
  intro h
  unfold putF
  rw [ih fun t ht=>h t (by simp [ht])]
  have hs:=h s (by simp)
  unfold Act.put
  cases a with
  |mk t d=>
   simp only at hs⊢
   congr 1
   refine Array.ext (by simp) fun i h1 h2=>?_
   rw [Array.getElem_setIfInBounds]
   split
   ·rename_i e;subst e;simp [hs]
   ·rfl
theorem put_none (a:Act)(v:Value):a.put none v=a:=rfl
def befores (o:Oper):List Nat:=(o.after.toList.filter (Region.binds .any)).map (·.on)
def topoB (ops:Array Oper):Bool:=(List.range ops.size).all fun i=>((ops[i]?).map fun o=>o.after.all fun e=>!Region.binds .any e||decide (e.on < i)).getD true
section
variable {P : Program} {ops : Array Oper} {Q : Exit → Act → World → Prop}
theorem ready_iff {l:Array Bool}{i:Nat}(hz:l.size=ops.size):i∈Region.ready .any ops l→∃o,ops[i]?=some o∧¬ Lst l i∧∀j∈befores o,Lst l j:=by
 intro h
 unfold Region.ready at h
 simp only [List.mem_filter,List.mem_range,Bool.and_eq_true,Bool.not_eq_true'] at h
 obtain ⟨h1,h2,h3⟩:=h
 have ho:ops[i]?=some ops[i]:=Array.getElem?_eq_getElem h1
 rw [ho] at h3
 simp only [Option.map_some,Option.getD_some,Array.all_eq_true] at h3
 refine ⟨ops[i],ho,?_,fun j hj=>?_⟩
 ·unfold Lst
  have:i < l.size:=by omega
  simp [Array.getD,this] at h2⊢
  exact h2
 ·unfold befores at hj
  simp only [List.mem_map,List.mem_filter] at hj
  obtain ⟨e,⟨he,hb⟩,rfl⟩:=hj
  obtain ⟨k,hk,rfl⟩:=List.getElem_of_mem he
  have:=h3 k (by simpa using hk)
  simp only [Array.getElem_toList] at hb⊢
  rw [hb] at this
  simpa [Lst] using this
theorem ready_nil {l:Array Bool}(hz:l.size=ops.size)(ht:topoB ops=true)(h:Region.ready .any ops l=[]):∀i,i < ops.size→Lst l i:=by
 intro i
 induction i using Nat.strongRecOn with
 |_ i ih=>
  intro hi
  refine Classical.byContradiction fun hn=>?_
  have:i∈Region.ready .any ops l:=by
   unfold Region.ready
   simp only [List.mem_filter,List.mem_range,Bool.and_eq_true,Bool.not_eq_true']
   refine ⟨hi,?_,?_⟩
   ·unfold Lst at hn
    have h2:i < l.size:=by omega
    simp [Array.getD,h2] at hn⊢
    exact hn
   ·have ho:ops[i]?=some ops[i]:=Array.getElem?_eq_getElem hi
    rw [ho]
    simp only [Option.map_some,Option.getD_some,Array.all_eq_true]
    intro k hk
    unfold topoB at ht
    rw [List.all_eq_true] at ht
    have h3:=ht i (List.mem_range.2 hi)
    rw [ho] at h3
    simp only [Option.map_some,Option.getD_some,Array.all_eq_true] at h3
    have h3:=h3 k hk
    cases hb:Region.binds .any (ops[i].after[k]) with
    |false=>simp
    |true=>
     rw [hb] at h3
     have h3:=of_decide_eq_true (by simpa using h3)
     have h4:=ih _ h3 (by omega)
     unfold Lst at h4
     rw [h4];simp
  rw [h] at this;cases this
def StepsI (P:Program) (ops:Array Oper) (Q:Exit→Act→World→Prop) (R:Array Bool→(Nat→Value)→World→Prop) (a:Act) (sl:List Nat) (is:List Nat):Prop:=
 ∀i∈is,∀o,ops[i]?=some o→∀l f w,R l f w→¬ Lst l i→(∀j∈befores o,Lst l j)→(∀d,o.dst=some d→d∈sl)∧wpOp P ops Q i (fun a' w'=>∃v,a'=(putF a sl f).put o.dst v∧R (l.setIfInBounds i true) (upd f o.dst v) w') (putF a sl f) w
theorem StepsI.nil {R:Array Bool→(Nat→Value)→World→Prop}{a:Act}{sl:List Nat} :StepsI P ops Q R a sl []:=fun _ h=>by cases h
theorem StepsI.cons {R:Array Bool→(Nat→Value)→World→Prop}{a:Act}{sl:List Nat}{i:Nat}{o:Oper}{is:List Nat}(bs:List Nat)(ho:ops[i]?=some o)(hb:befores o=bs)(hg:o.guard=none)(hd:∀d,o.dst=some d→d∈sl)
  (h:∀l f w,R l f w→¬ Lst l i→(∀j∈bs,Lst l j)→∀K:Act→World→Prop,Hid (∀v w',R (l.setIfInBounds i true) (upd f o.dst v) w'→K ((putF a sl f).put o.dst v) w')→Oper.wp P o (putF a sl f) w K Q)
  (hs:StepsI P ops Q R a sl is):StepsI P ops Q R a sl (i::is):=fun j hj=>by
 rcases List.mem_cons.1 hj with rfl|hj
 ·intro o' ho' l f w hR hn hl
  rw [ho] at ho'
  injection ho' with ho'
  subst ho'
  refine ⟨hd,wpOp_step ho (fun K' hK=>?_)⟩
  have hw:Region.wanted o (yielded ops (putF a sl f).tmps)=true:=by simp [Region.wanted,hg]
  rw [if_pos hw]
  exact h l f w hR hn (by rw [← hb];exact hl) K' (zH fun v w' hR'=>hK _ _ ⟨v,rfl,hR'⟩)
 ·exact hs j hj
theorem count_set:∀(l:List Bool) (i:Nat),l[i]?=some false→(l.set i true).count false+1=l.count false:=by
 intro l
 induction l with
 |nil=>intro i h;simp at h
 |cons b l ih=>
  intro i h
  cases i with
  |zero=>simp at h;subst h;simp [List.count_cons]
  |succ i=>
   simp only [List.set_cons_succ,List.count_cons]
   have:=ih i (by simpa using h)
   omega
theorem wpAny_inv {R:Array Bool→(Nat→Value)→World→Prop}{a:Act}{sl:List Nat}(hnd:sl.Nodup)(ht:topoB ops=true)(hs:StepsI P ops Q R a sl (List.range ops.size))
  (he:∀l f w,R l f w→(∀i,i < ops.size→Lst l i)→Q .normal (putF a sl f) w):
  ∀fuel (l:Array Bool) (f:Nat→Value) (w:World),l.size=ops.size→l.toList.count false≤fuel→R l f w→wpAny P .any ops Q fuel l (putF a sl f) w:=by
 intro fuel
 induction fuel with
 |zero=>
  intro l f w hz hc hR
  have hall:∀i,i < ops.size→Lst l i:=by
   intro i hi
   have hi':i < l.size:=by omega
   have h0:l.toList.count false=0:=by omega
   rw [List.count_eq_zero] at h0
   unfold Lst
   simp [Array.getD,hi']
   cases hb:l[i] with
   |true=>rfl
   |false=>exact absurd (by rw [← hb];simp) h0
  refine ⟨?_,he l f w hR hall⟩
  refine List.eq_nil_iff_forall_not_mem.2 fun i hi=>?_
  obtain ⟨o,ho,hn,_⟩:=ready_iff hz hi
  exact hn (hall i (Array.getElem?_eq_some_iff.1 ho).1)
 |succ fuel ih=>
  intro l f w hz hc hR
  refine ⟨fun hr=>he l f w hR (ready_nil hz ht hr),fun i hi=>?_⟩
  obtain ⟨o,ho,hn,hb⟩:=ready_iff hz hi
  have hlt:=(Array.getElem?_eq_some_iff.1 ho).1
  obtain ⟨hd,hw⟩:=hs i (List.mem_range.2 hlt) o ho l f w hR hn hb
  refine wpOp_mono (fun a' w' h=>?_) hw
  obtain ⟨v,rfl,hR'⟩:=h
  have hl':l.toList[i]?=some false:=by
   have h2:i < l.size:=by omega
   unfold Lst at hn
   simp [Array.getD,h2] at hn
   simp [h2,hn]
  have hc':(l.setIfInBounds i true).toList.count false≤fuel:=by
   rw [Array.toList_setIfInBounds]
   have:=count_set l.toList i hl'
   omega
  cases hdst:o.dst with
  |none=>
   rw [hdst] at hR'
   rw [put_none]
   have:upd f none v=f:=by funext k;simp [upd]
   rw [this] at hR'
   exact ih _ f w' (by simpa using hz) hc' hR'
  |some d=>
   rw [hdst] at hR'
   rw [putF_put a f d v sl hnd (hd d hdst)]
   exact ih _ _ w' (by simpa using hz) hc' hR'
structure Cov (p:Prop):Prop where
 out:p
def StepsL (P:Program) (R:Array Bool→(Nat→Value)→World→Prop) (a:Act) (sl:List Nat):Nat→List Oper→Prop
 |_,[]=>True
 |i,o::rest=>((∀d,o.dst=some d→d∈sl)∧∀l f w,R l f w→¬ Lst l i→(∀j∈befores o,Lst l j)→∀(K:Act→World→Prop) (Q':Exit→Act→World→Prop),Hid (∀v w',R (l.setIfInBounds i true) (upd f o.dst v) w'→K ((putF a sl f).put o.dst v) w')→(o.guard=none∧Oper.wp P o (putF a sl f) w K Q'))∧StepsL P R a sl (i+1) rest
theorem StepsL.cons {R:Array Bool→(Nat→Value)→World→Prop}{a:Act}{sl:List Nat}{i:Nat}{o:Oper}{rest:List Oper}(i':Nat)(bs:List Nat)(hi:i+1=i')(hb:befores o=bs)(hg:o.guard=none)(hd:∀d,o.dst=some d→d∈sl)
  (h:∀l f w,R l f w→¬ Lst l i→(∀j∈bs,Lst l j)→∀(K:Act→World→Prop) (Q':Exit→Act→World→Prop),Hid (∀v w',R (l.setIfInBounds i true) (upd f o.dst v) w'→K ((putF a sl f).put o.dst v) w')→Cov (Oper.wp P o (putF a sl f) w K Q'))
  (hs:StepsL P R a sl i' rest):StepsL P R a sl i (o::rest):=by
 subst hi;subst hb
 exact ⟨⟨hd,fun l f w hR hn hb K Q' hK=>⟨hg,(h l f w hR hn hb K Q' hK).out⟩⟩,hs⟩
theorem StepsL.c {R:Array Bool→(Nat→Value)→World→Prop}{a:Act}{sl:List Nat}{i:Nat}{o:Oper}{rest:List Oper}(i':Nat)(bs:List Nat)
  (h:∀l f w,R l f w→¬ Lst l i→(∀j∈bs,Lst l j)→∀(K:Act→World→Prop) (Q':Exit→Act→World→Prop),Hid (∀v w',R (l.setIfInBounds i true) (upd f o.dst v) w'→K ((putF a sl f).put o.dst v) w')→Cov (Oper.wp P o (putF a sl f) w K Q'))
  (hs:StepsL P R a sl i' rest) (hi:i+1=i':=by rfl) (hb:befores o=bs:=by kernel_rfl) (hg:o.guard=none:=by rfl) (hd:∀d,o.dst=some d→d∈sl:=by first|(intro d hd;injection hd with hd;subst hd;decide)|(intro d hd;cases hd)):StepsL P R a sl i (o::rest):=StepsL.cons i' bs hi hb hg hd h hs
theorem StepsL.nil {R:Array Bool→(Nat→Value)→World→Prop}{a:Act}{sl:List Nat}{i:Nat} :StepsL P R a sl i []:=trivial
theorem StepsL.at {R:Array Bool→(Nat→Value)→World→Prop}{a:Act}{sl:List Nat} :∀(rest:List Oper) (i:Nat),StepsL P R a sl i rest→∀j o,rest[j]?=some o→
  (∀d,o.dst=some d→d∈sl)∧∀l f w,R l f w→¬ Lst l (i+j)→(∀j∈befores o,Lst l j)→∀(K:Act→World→Prop) (Q':Exit→Act→World→Prop),Hid (∀v w',R (l.setIfInBounds (i+j) true) (upd f o.dst v) w'→K ((putF a sl f).put o.dst v) w')→(o.guard=none∧Oper.wp P o (putF a sl f) w K Q'):=by
 intro rest
 induction rest with
 |nil=>intro i _ j o h;simp at h
 |cons x rest ih=>
  intro i hs j o h
  cases j with
  |zero=>simp at h;subst h;exact hs.1
  |succ j=>
   have:=ih (i+1) hs.2 j o (by simpa using h)
   rw [show i+(j+1)=i+1+j by omega]
   exact this
theorem wp_region_inv {id:Nat}{a:Act}{w:World}{lo:List Oper}(sl:List Nat)(R:Array Bool→(Nat→Value)→World→Prop)(hm:P.follows .mixedOrders=true)(hnd:sl.Nodup)(ht:topoB lo.toArray=true)(hsz:∀s∈sl,s < a.tmps.size)
  (h0:∀l,l.size=lo.length→(∀i,¬ Lst l i)→R l (fun s=>a.tmps.getD s undef) w.drew) (hs:StepsL P R a sl 0 lo)
  (he:∀l f w,R l f w→(∀i,i < lo.length→Lst l i)→Q .normal (putF a sl f) w):(Code.region id lo.toArray true).wp P Q a w:=by
 refine wp_region_any hm ?_
 have hS:StepsI P lo.toArray Q R a sl (List.range lo.toArray.size):=by
  intro i hi o ho l f w hR hn hb
  have ho':lo[i]?=some o:=by simpa using ho
  obtain ⟨hd,h⟩:=StepsL.at lo 0 hs i o ho'
  rw [Nat.zero_add] at h
  refine ⟨hd,wpOp_step ho (fun K' hK=>?_)⟩
  obtain ⟨hg,hw⟩:=h l f w hR hn hb K' Q (zH fun v w' hR'=>hK _ _ ⟨v,rfl,hR'⟩)
  have hwt:Region.wanted o (yielded lo.toArray (putF a sl f).tmps)=true:=by simp [Region.wanted,hg]
  rw [if_pos hwt]
  exact hw
 have h:=wpAny_inv (P:=P) (Q:=Q) hnd ht hS (fun l f w hR hall=>he l f w hR fun i hi=>hall i (by simpa using hi)) lo.toArray.size (Array.replicate lo.toArray.size false) (fun s=>a.tmps.getD s undef) w.drew (by simp) (by simp) (h0 _ (by simp) fun i=>by unfold Lst;rw [Array.getD_eq_getD_getElem?,Array.getElem?_replicate];split<;>simp)
 rw [putF_self a sl hsz] at h
 exact h
end
def isDom (doms d:Int):Bool:=inB 0 d (doms - 1)
def headErr (c:TCfg):Int:=
 if !inB 1 c.sets 4|| !inB 1 c.ways 3|| !inB 1 c.doms 4|| !inB 1 c.quantum 100 then 3
 else if !inB (2+5*c.sets*c.ways) c.pad 99 then 4
 else if !inB 1 c.slots.length 6||decide (4 < c.owners.length)||decide (4 < c.chans.length)||decide (6 < c.tasks.length) then 2 else 0
def slotErr (doms:Int) (x:TSlot):Int:=if !isDom doms x.dom then 5 else if !inB 100 x.len 1000 then 3 else 0
def slotsErr (c:TCfg):Int:=firstE c.slots.length fun i=>slotErr c.doms (nth c.slots i)
def ownersErr (c:TCfg):Int:=if anyI c.owners.length (fun i=>!isDom c.doms (nth c.owners i)) then 5 else 0
def sameChan (xs:List TChan) (i j:Nat):Bool:=(nth xs j).src==(nth xs i).src&&(nth xs j).dst==(nth xs i).dst
def chanErr (doms:Int) (xs:List TChan) (i:Nat):Int:=
 if !isDom doms (nth xs i).src|| !isDom doms (nth xs i).dst then 5
 else if (nth xs i).src=(nth xs i).dst then 1
 else if !inB 1 (nth xs i).size 4 then 3
 else if anyI i (sameChan xs i) then 6 else 0
def chansErr (c:TCfg):Int:=firstE c.chans.length (chanErr c.doms c.chans)
def taskErr (doms:Int) (x:TTask):Int:=
 if !isDom doms x.dom then 5
 else if !inB 1 x.period 5000|| !inB 1 x.budget x.period|| !inB 1 x.dead x.period then 3 else 0
def tasksErr (c:TCfg):Int:=firstE c.tasks.length fun i=>taskErr c.doms (nth c.tasks i)
def thenE (a b:Int):Int:=if a=0 then b else a
def checkConfig (c:TCfg):Int:=thenE (headErr c) (thenE (slotsErr c) (thenE (ownersErr c) (thenE (chansErr c) (tasksErr c))))
theorem thenE_zero {a b:Int} :thenE a b=0↔a=0∧b=0:=by
 unfold thenE;split
 ·rename_i h;simp [h]
 ·rename_i h;simp [h]
structure CfgOk (c:TCfg):Prop where
 sets:1≤c.sets∧c.sets≤4
 ways:1≤c.ways∧c.ways≤3
 doms:1≤c.doms∧c.doms≤4
 quantum:1≤c.quantum∧c.quantum≤100
 pad:2+5*c.sets*c.ways≤c.pad∧c.pad≤99
 nslots:1≤c.slots.length∧c.slots.length≤6
 nowners:c.owners.length≤4
 nchans:c.chans.length≤4
 ntasks:c.tasks.length≤6
 slot:∀i,i < c.slots.length→0≤(nth c.slots i).dom∧(nth c.slots i).dom < c.doms∧100≤(nth c.slots i).len∧(nth c.slots i).len≤1000
 owner:∀i,i < c.owners.length→0≤nth c.owners i∧nth c.owners i < c.doms
 chan:∀i,i < c.chans.length→(0≤(nth c.chans i).src∧(nth c.chans i).src < c.doms)∧(0≤(nth c.chans i).dst∧(nth c.chans i).dst < c.doms)∧(nth c.chans i).src≠(nth c.chans i).dst∧1≤(nth c.chans i).size∧(nth c.chans i).size≤4
 task:∀i,i < c.tasks.length→(0≤(nth c.tasks i).dom∧(nth c.tasks i).dom < c.doms)∧(1≤(nth c.tasks i).period∧(nth c.tasks i).period≤5000)∧(1≤(nth c.tasks i).budget∧(nth c.tasks i).budget≤(nth c.tasks i).period)∧(1≤(nth c.tasks i).dead∧(nth c.tasks i).dead≤(nth c.tasks i).period)
theorem isDom_true {doms d:Int} :isDom doms d=true↔0≤d∧d < doms:=by unfold isDom;rw [inB_true];omega
theorem ite_zero {p:Prop}[Decidable p]{a b:Int}(ha:a≠0):(if p then a else b)=0↔¬ p∧b=0:=by
 split
 ·rename_i h;simp [h,ha]
 ·rename_i h;simp [h]
theorem head_ok {c:TCfg}(h:headErr c=0):(1≤c.sets∧c.sets≤4)∧(1≤c.ways∧c.ways≤3)∧(1≤c.doms∧c.doms≤4)∧(1≤c.quantum∧c.quantum≤100)∧(2+5*c.sets*c.ways≤c.pad∧c.pad≤99)∧(1≤c.slots.length∧c.slots.length≤6)∧c.owners.length≤4∧c.chans.length≤4∧c.tasks.length≤6:=by
 unfold headErr at h
 rw [ite_zero (by omega),ite_zero (by omega),ite_zero (by omega)] at h
 simp only [Bool.or_eq_true,Bool.not_eq_true',not_or,Bool.not_eq_false,decide_eq_true_eq,inB_true] at h
 omega
theorem checkConfig_ok {c:TCfg}(h:checkConfig c=0):CfgOk c:=by
 unfold checkConfig at h
 rw [thenE_zero,thenE_zero,thenE_zero,thenE_zero] at h
 obtain ⟨h1,h2,h3,h4,h5⟩:=h
 obtain ⟨a1,a2,a3,a4,a5,a6,a7,a8,a9⟩:=head_ok h1
 refine ⟨a1,a2,a3,a4,a5,a6,a7,a8,a9,fun i hi=>?_,fun i hi=>?_,fun i hi=>?_,fun i hi=>?_⟩
 ·have:=firstE_zero h2 i hi
  unfold slotErr at this
  rw [ite_zero (by omega),ite_zero (by omega)] at this
  simp only [Bool.not_eq_true',Bool.not_eq_false,isDom_true,inB_true] at this
  omega
 ·unfold ownersErr at h3
  rw [ite_zero (by omega)] at h3
  have:=anyI_false.1 (by simpa using h3.1) i hi
  have:=isDom_true.1 (by simpa using this)
  exact this
 ·have:=firstE_zero h4 i hi
  unfold chanErr at this
  rw [ite_zero (by omega),ite_zero (by omega),ite_zero (by omega),ite_zero (by omega)] at this
  simp only [Bool.or_eq_true,Bool.not_eq_true',not_or,Bool.not_eq_false,isDom_true,inB_true] at this
  obtain ⟨b1,b2,b3,b4,_⟩:=this
  exact ⟨b1.1,b1.2,b2,b3⟩
 ·have:=firstE_zero h5 i hi
  unfold taskErr at this
  rw [ite_zero (by omega),ite_zero (by omega)] at this
  simp only [Bool.or_eq_true,Bool.not_eq_true',not_or,Bool.not_eq_false,isDom_true,inB_true] at this
  obtain ⟨b1,⟨⟨b2,b3⟩,b4⟩,_⟩:=this
  exact ⟨b1,b2,b3,b4⟩
def arrErr (lines:Nat) (x:TArr):Int:=if !inB 0 x.t 100000 then 3 else if !inB 0 x.line ((lines:Int) - 1) then 5 else 0
def checkArrivals (c:TCfg) (l:List TArr):Int:=if 40 < l.length then 2 else firstE l.length fun i=>arrErr c.owners.length (nth l i)
theorem checkArrivals_ok {c:TCfg}{l:List TArr}(h:checkArrivals c l=0):l.length≤40∧∀i,i < l.length→0≤(nth l i).t∧(nth l i).t≤100000∧0≤(nth l i).line∧(nth l i).line < c.owners.length:=by
 unfold checkArrivals at h
 rw [ite_zero (by omega)] at h
 refine ⟨by omega,fun i hi=>?_⟩
 have:=firstE_zero h.2 i hi
 unfold arrErr at this
 rw [ite_zero (by omega),ite_zero (by omega)] at this
 simp only [Bool.not_eq_true',Bool.not_eq_false,inB_true] at this
 omega
def badValue (n:Int):Bool:= !inB 0 n 255
def areValues (vs:List Int):Bool:= !anyI vs.length fun j=>badValue (nth vs j)
def checkRing (vs:List Int) (lost size:Int):Int:=
 if !inB 1 size 4 then 3 else if size < vs.length then 2 else if !areValues vs|| !inB 0 lost 100000 then 3 else 0
def comeN (vs ys:List Int) (size:Nat):Nat:=min (size - vs.length) ys.length
def comeVals (vs ys:List Int) (size:Nat):List Int:=vs++ys.take (comeN vs ys size)
def comeLost (vs ys:List Int) (lost:Int) (size:Nat):Int:=min 100000 (lost+ys.length - comeN vs ys size)
def restOf (vs:List Int):List Int:=vs.tail
def takeV (vs:List Int):Int:=match vs with|[]=> -1|v::_=>v
def taskOf (c:TCfg) (t:Int):TTask:=nth c.tasks t.toNat
structure JobOk (c:TCfg) (dom:Int) (j:TJob):Prop where
 task:0≤j.task∧j.task < c.tasks.length
 dom:(taskOf c j.task).dom=dom
 number:0≤j.number∧j.number≤100000
 released:0≤j.released∧j.released≤100000
 used:0≤j.used∧j.used < (taskOf c j.task).budget
structure DomOkW (c:TCfg) (dom:Int) (d:TDom):Prop where
 isD:0≤dom∧dom < c.doms
 lrel:d.released.length=c.tasks.length
 lin:d.ins.length=c.chans.length
 lout:d.outs.length=c.chans.length
 ltak:d.taken.length=c.owners.length
 rel:∀i,i < d.released.length→0≤nth d.released i∧nth d.released i≤100000
 next:0≤d.next∧d.next≤100000
 tak:∀i,i < d.taken.length→0≤nth d.taken i∧nth d.taken i≤15
 njobs:d.jobs.length≤20
 job:∀i,i < d.jobs.length→JobOk c dom (nth d.jobs i)
 ring:∀i,i < d.ins.length→checkRing (nth d.ins i).vals (nth d.ins i).lost (nth c.chans i).size=0
def upTo {S:Type} (f:Nat→S→S):Nat→Nat→S→S
 |0,_,s=>s
 |n+1,i,s=>upTo f n (i+1) (f i s)
theorem upTo_step {S:Type}(f:Nat→S→S){n i:Nat}(h:i < n)(s:S):upTo f (n - i) i s=upTo f (n - (i+1)) (i+1) (f i s):=by
 obtain ⟨m,hm⟩:∃m,n - i=m+1:=⟨n - i - 1,by omega⟩
 rw [hm,show n - (i+1)=m by omega];rfl
theorem upTo_end {S:Type}(f:Nat→S→S){n i:Nat}(h:n≤i)(s:S):upTo f (n - i) i s=s:=by rw [show n - i=0 by omega];rfl
theorem upTo_keeps {S:Type}{f:Nat→S→S}{P:S→Prop}{N:Nat}(h:∀i s,i < N→P s→P (f i s)):∀n i s,i+n≤N→P s→P (upTo f n i s):=by
 intro n
 induction n with
 |zero=>intro i s _ hp;exact hp
 |succ n ih=>intro i s hi hp;exact ih (i+1) (f i s) (by omega) (h i s (by omega) hp)
def relAt (c:TCfg) (t:Nat) (d:TDom):Int:=(nth c.tasks t).period*nth d.released t
def relCan (c:TCfg) (t:Nat) (now:Int) (d:TDom):Bool:=decide (relAt c t d≤now)&&decide (nth d.released t < 100000)
def relStep (c:TCfg) (t:Nat) (d:TDom):TDom:=
 if d.jobs.length < 20 then
  {d with jobs:=d.jobs++[⟨t,nth d.released t,relAt c t d,0,false,false⟩],events:=d.events++[⟨relAt c t d,2,t,nth d.released t⟩],released:=d.released.set t (nth d.released t+1)}
 else {d with released:=d.released.set t (nth d.released t+1)}
def relLoop (c:TCfg) (t:Nat) (now:Int):Nat→TDom→TDom
 |0,d=>d
 |n+1,d=>if relCan c t now d then relLoop c t now n (relStep c t d) else d
def relFuel (t:Nat) (d:TDom):Nat:=(100000 - nth d.released t).toNat
def relTask (c:TCfg) (dom now:Int) (t:Nat) (d:TDom):TDom:=if (nth c.tasks t).dom=dom then relLoop c t now (relFuel t d) d else d
def lateOf (c:TCfg) (j:TJob):Int:=j.released+(taskOf c j.task).dead
def missStep (c:TCfg) (now:Int) (i:Nat) (d:TDom):TDom:=
 if !(nth d.jobs i).missed&&decide (lateOf c (nth d.jobs i)≤now) then
  {d with jobs:=d.jobs.set i {nth d.jobs i with missed:=true},events:=d.events++[⟨lateOf c (nth d.jobs i),6,(nth d.jobs i).task,(nth d.jobs i).number⟩]}
 else d
def relAll (c:TCfg) (dom now:Int) (d:TDom):TDom:=upTo (relTask c dom now) c.tasks.length 0 d
def missAll (c:TCfg) (now:Int) (d:TDom):TDom:=upTo (missStep c now) d.jobs.length 0 d
def releaseOf (c:TCfg) (dom now:Int) (d:TDom):TDom:=missAll c now (relAll c dom now d)
theorem relLoop_go {c:TCfg}{t:Nat}{now:Int}{n:Nat}{d:TDom}(hn:relFuel t d≤n)(h:relCan c t now d=true):∃m,n=m+1∧relLoop c t now n d=relLoop c t now m (relStep c t d):=by
 unfold relCan at h
 simp only [Bool.and_eq_true,decide_eq_true_eq] at h
 unfold relFuel at hn
 obtain ⟨m,rfl⟩:∃m,n=m+1:=⟨n - 1,by omega⟩
 refine ⟨m,rfl,?_⟩
 conv=>lhs;unfold relLoop
 rw [if_pos (by simp [relCan,h])]
theorem relLoop_stop {c:TCfg}{t:Nat}{now:Int}{n:Nat}{d:TDom}(h:relCan c t now d=false):relLoop c t now n d=d:=by
 cases n with
 |zero=>rfl
 |succ n=>unfold relLoop;rw [if_neg (by simp [h])]
def aheadJ (c:TCfg) (a b:TJob):Bool:=
 if lateOf c a≠lateOf c b then decide (lateOf c a < lateOf c b) else if a.task≠b.task then decide (a.task < b.task) else decide (a.number < b.number)
def aheadI (c:TCfg) (js:List TJob) (i k:Nat):Bool:=aheadJ c (nth js i) (nth js k)||(!aheadJ c (nth js k) (nth js i)&&decide (i < k))
def isFirst (c:TCfg) (js:List TJob) (i:Nat):Bool:= !anyI js.length fun k=>decide (k≠i)&&aheadI c js k i
def bestOf (c:TCfg) (js:List TJob):Int:=findI js.length (isFirst c js)
theorem aheadJ_iff {c:TCfg}{a b:TJob} :aheadJ c a b=true↔lateOf c a < lateOf c b∨(lateOf c a=lateOf c b∧(a.task < b.task∨(a.task=b.task∧a.number < b.number))):=by
 unfold aheadJ
 split
 ·simp;omega
 ·split
  ·simp;omega
  ·simp;omega
theorem aheadJ_false {c:TCfg}{a b:TJob} :aheadJ c a b=false↔¬ (lateOf c a < lateOf c b∨(lateOf c a=lateOf c b∧(a.task < b.task∨(a.task=b.task∧a.number < b.number)))):=by
 rw [← aheadJ_iff];simp
theorem aheadI_iff {c:TCfg}{js:List TJob}{i k:Nat} :aheadI c js i k=true↔aheadJ c (nth js i) (nth js k)=true∨(aheadJ c (nth js k) (nth js i)=false∧i < k):=by
 unfold aheadI;simp
theorem aheadI_asymm {c:TCfg}{js:List TJob}{i k:Nat}(h:aheadI c js i k=true):aheadI c js k i=false:=by
 rw [← Bool.not_eq_true,aheadI_iff,aheadJ_iff,aheadJ_false]
 rw [aheadI_iff,aheadJ_iff,aheadJ_false] at h
 omega
theorem aheadI_trans {c:TCfg}{js:List TJob}{i j k:Nat}(h:aheadI c js i j=true)(h':aheadI c js j k=true):aheadI c js i k=true:=by
 rw [aheadI_iff,aheadJ_iff,aheadJ_false] at h h'⊢
 omega
def BestTo (c:TCfg) (js:List TJob) (k:Nat) (b:Int):Prop:=(k=0∧b= -1)∨(∃i:Nat,i < k∧b=i∧∀j,j < k→j≠i→aheadI c js i j=true)
theorem BestTo.zero (c:TCfg)(js:List TJob):BestTo c js 0 (-1):= .inl ⟨rfl,rfl⟩
theorem BestTo.take {c:TCfg}{js:List TJob}{k:Nat}{b:Int}(h:BestTo c js k b)(ht:b < 0∨aheadJ c (nth js k) (nth js b.toNat)=true):BestTo c js (k+1) k:=by
 refine .inr ⟨k,by omega,rfl,fun j hj hne=>?_⟩
 rcases h with ⟨rfl,rfl⟩|⟨i,hi,rfl,h⟩
 ·omega
 ·rcases ht with ht|ht
  ·omega
  ·have hk:aheadI c js k i=true:=aheadI_iff.2 (.inl (by simpa using ht))
   by_cases e:j=i
   ·subst e;exact hk
   ·exact aheadI_trans hk (h j (by omega) e)
theorem BestTo.stay {c:TCfg}{js:List TJob}{k:Nat}{b:Int}(h:BestTo c js k b)(h0:0≤b)(ht:aheadJ c (nth js k) (nth js b.toNat)=false):BestTo c js (k+1) b:=by
 rcases h with ⟨rfl,rfl⟩|⟨i,hi,rfl,h⟩
 ·omega
 ·refine .inr ⟨i,by omega,rfl,fun j hj hne=>?_⟩
  by_cases e:j=k
  ·subst e;exact aheadI_iff.2 (.inr ⟨by simpa using ht,hi⟩)
  ·exact h j (by omega) hne
theorem BestTo.best {c:TCfg}{js:List TJob}{b:Int}(h:BestTo c js js.length b):bestOf c js=b:=by
 rcases h with ⟨h0,rfl⟩|⟨i,hi,rfl,h⟩
 ·unfold bestOf;rw [h0];rfl
 ·refine findI_hit hi (fun j hj=>?_) ?_
  ·unfold isFirst
   rw [Bool.not_eq_false',anyI_true]
   exact ⟨i,hi,by simp [h j (by omega) (by omega)];omega⟩
  ·unfold isFirst
   rw [Bool.not_eq_true',anyI_false]
   intro j hj
   by_cases e:j=i
   ·simp [e]
   ·rw [aheadI_asymm (h j hj e)];simp
theorem bestOf_cases (c:TCfg)(js:List TJob):(js=[]∧bestOf c js= -1)∨(∃i:Nat,i < js.length∧bestOf c js=i∧∀j,j < js.length→j≠i→aheadI c js i j=true):=by
 have key:∀k,∃b,BestTo c js k b:=by
  intro k
  induction k with
  |zero=>exact ⟨-1,BestTo.zero c js⟩
  |succ k ih=>
   obtain ⟨b,hb⟩:=ih
   by_cases h0:b < 0
   ·exact ⟨k,hb.take (.inl h0)⟩
   ·cases ha:aheadJ c (nth js k) (nth js b.toNat) with
    |true=>exact ⟨k,hb.take (.inr ha)⟩
    |false=>exact ⟨b,hb.stay (by omega) ha⟩
 obtain ⟨b,hb⟩:=key js.length
 have hbest:=hb.best
 rcases hb with ⟨h0,rfl⟩|⟨i,hi,rfl,h⟩
 ·exact .inl ⟨List.eq_nil_of_length_eq_zero h0,hbest⟩
 ·exact .inr ⟨i,hi,hbest,h⟩
def IsDue (c:TCfg) (dom:Int) (d:TDom) (p:Nat→Prop) (v:Int):Prop:=
 (v= -1∧∀t,p t→(nth c.tasks t).dom≠dom)∨(∃t,p t∧(nth c.tasks t).dom=dom∧v=relAt c t d∧0≤v∧∀u,p u→(nth c.tasks u).dom=dom→v≤relAt c u d)
theorem IsDue.unique {c:TCfg}{dom:Int}{d:TDom}{p:Nat→Prop}{v v':Int}(h:IsDue c dom d p v)(h':IsDue c dom d p v'):v=v':=by
 rcases h with ⟨rfl,h⟩|⟨t,h1,h2,h3,h4,h5⟩
 ·rcases h' with ⟨rfl,h'⟩|⟨t',h1',h2',_⟩
  ·rfl
  ·exact absurd h2' (h t' h1')
 ·rcases h' with ⟨rfl,h'⟩|⟨t',h1',h2',h3',h4',h5'⟩
  ·exact absurd h2 (h' t h1)
  ·have:=h5 t' h1' h2'
   have:=h5' t h1 h2
   omega
theorem IsDue.skip {c:TCfg}{dom:Int}{d:TDom}{p q:Nat→Prop}{v:Int}{k:Nat}(h:IsDue c dom d p v)(hq:∀t,q t↔p t∨t=k)(hd:(nth c.tasks k).dom≠dom):IsDue c dom d q v:=by
 rcases h with ⟨rfl,h⟩|⟨t,h1,h2,h3,h4,h5⟩
 ·refine .inl ⟨rfl,fun t ht=>?_⟩
  rcases (hq t).1 ht with ht|rfl
  ·exact h t ht
  ·exact hd
 ·refine .inr ⟨t,(hq t).2 (.inl h1),h2,h3,h4,fun u hu hdu=>?_⟩
  rcases (hq u).1 hu with hu|rfl
  ·exact h5 u hu hdu
  ·exact absurd hdu hd
theorem IsDue.take {c:TCfg}{dom:Int}{d:TDom}{p q:Nat→Prop}{v:Int}{k:Nat}(h:IsDue c dom d p v)(hq:∀t,q t↔p t∨t=k)(hd:(nth c.tasks k).dom=dom)(h0:0≤relAt c k d)(hv:v < 0∨relAt c k d≤v):IsDue c dom d q (relAt c k d):=by
 refine .inr ⟨k,(hq k).2 (.inr rfl),hd,rfl,h0,fun u hu hdu=>?_⟩
 rcases (hq u).1 hu with hu|rfl
 ·rcases h with ⟨rfl,h⟩|⟨t,h1,h2,h3,h4,h5⟩
  ·exact absurd hdu (h u hu)
  ·have:=h5 u hu hdu
   omega
 ·exact Int.le_refl _
theorem IsDue.stay {c:TCfg}{dom:Int}{d:TDom}{p q:Nat→Prop}{v:Int}{k:Nat}(h:IsDue c dom d p v)(hq:∀t,q t↔p t∨t=k)(h0:0≤v)(hv:v≤relAt c k d):IsDue c dom d q v:=by
 rcases h with ⟨rfl,h⟩|⟨t,h1,h2,h3,h4,h5⟩
 ·omega
 ·refine .inr ⟨t,(hq t).2 (.inl h1),h2,h3,h4,fun u hu hdu=>?_⟩
  rcases (hq u).1 hu with hu|rfl
  ·exact h5 u hu hdu
  ·exact hv
theorem IsDue.start (c:TCfg)(dom:Int)(d:TDom)(p:Nat→Prop)(h:∀t,¬ p t):IsDue c dom d p (-1):= .inl ⟨rfl,fun t ht=>absurd ht (h t)⟩
def dueUp (c:TCfg) (dom:Int) (d:TDom):Nat→Int
 |0=> -1
 |k+1=>if (nth c.tasks k).dom=dom then (if dueUp c dom d k < 0∨relAt c k d < dueUp c dom d k then relAt c k d else dueUp c dom d k) else dueUp c dom d k
def dueOf (c:TCfg) (dom:Int) (d:TDom):Int:=dueUp c dom d c.tasks.length
theorem dueUp_isDue {c:TCfg}{dom:Int}{d:TDom}(k:Nat)(hp:∀t,t < k→0≤relAt c t d):IsDue c dom d (fun t=>t < k) (dueUp c dom d k):=by
 induction k with
 |zero=>exact IsDue.start _ _ _ _ fun t h=>by omega
 |succ k ih=>
  have ih:=ih fun t ht=>hp t (by omega)
  have hq:∀t,t < k+1↔t < k∨t=k:=fun t=>by omega
  unfold dueUp
  split
  ·rename_i hd
   split
   ·exact ih.take hq hd (hp k (by omega)) (by omega)
   ·exact ih.stay hq (by omega) (by omega)
  ·rename_i hd
   exact ih.skip hq hd
def freshOf (c:TCfg):TDom:=⟨[],List.replicate c.tasks.length 0,0,List.replicate c.chans.length ⟨[],0⟩,List.replicate c.owners.length 0,List.replicate c.chans.length [],[]⟩
end
end Go.Proofs.YtinlmkhlgclbfabDoor
