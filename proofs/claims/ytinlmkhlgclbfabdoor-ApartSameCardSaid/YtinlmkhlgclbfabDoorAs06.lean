/- DomQ to StartP -/
import Derived.Test.YtinlmkhlgclbfabDoorAs05
namespace Go.Proofs.YtinlmkhlgclbfabDoor
open Go.RowKit
section
theorem relStep_released (c:TCfg)(t:Nat)(d:TDom):(relStep c t d).released=d.released.set t (nth d.released t+1):=by unfold relStep;split<;>rfl
theorem relCan_iff {c:TCfg}{t:Nat}{now:Int}{d:TDom} :relCan c t now d=true↔relAt c t d≤now∧nth d.released t < 100000:=by simp [relCan]
theorem relCan_stop {c:TCfg}{t:Nat}{now:Int}{d:TDom} :relCan c t now d=false↔¬ (relAt c t d≤now∧nth d.released t < 100000):=by rw [← relCan_iff];simp
theorem relLoop_done {c:TCfg}{t:Nat}{now:Int} :∀(n:Nat) (d:TDom),relFuel t d≤n→t < d.released.length→relCan c t now (relLoop c t now n d)=false:=by
 intro n
 induction n with
 |zero=>
  intro d hn ht
  rw [relCan_stop]
  unfold relFuel at hn
  simp only [relLoop]
  omega
 |succ n ih=>
  intro d hn ht
  unfold relLoop
  split
  ·rename_i hc
   have:=relCan_iff.1 hc
   refine ih _ ?_ (by rw [relStep_released];simpa using ht)
   unfold relFuel at hn⊢
   rw [relStep_released,nth_set_self ht]
   omega
  ·rename_i hc
   simpa using hc
theorem relLoop_keeps {c:TCfg}{t:Nat}{now:Int}{P:TDom→Prop}(h:∀d,P d→relCan c t now d=true→P (relStep c t d)):∀(n:Nat) (d:TDom),P d→P (relLoop c t now n d):=by
 intro n
 induction n with
 |zero=>intro d hp;exact hp
 |succ n ih=>
  intro d hp
  unfold relLoop
  split
  ·rename_i hc;exact ih _ (h d hp hc)
  ·exact hp
theorem jobOk_append {c:TCfg}{dom:Int}{js:List TJob}{j:TJob}(h:∀i,i < js.length→JobOk c dom (nth js i))(hj:JobOk c dom j):∀i,i < (js++[j]).length→JobOk c dom (nth (js++[j]) i):=by
 intro i hi
 by_cases e:i < js.length
 ·rw [nth_append_left e];exact h i e
 ·obtain rfl:i=js.length:=by simp at hi;omega
  rw [nth_append_last];exact hj
theorem relStep_ok {c:TCfg}{dom now:Int}{t:Nat}{d:TDom}(hc:CfgOk c)(hn:now≤100000)(ht:t < c.tasks.length)(hd:(nth c.tasks t).dom=dom)(h:DomOkW c dom d)(hcan:relCan c t now d=true):DomOkW c dom (relStep c t d):=by
 have h1:=relCan_iff.1 hcan
 have ht':t < d.released.length:=by rw [h.lrel];exact ht
 have hr:=h.rel t ht'
 have hT:=hc.task t ht
 have hat:0≤relAt c t d:=Int.mul_nonneg (by omega) hr.1
 have hrel:∀i,i < (d.released.set t (nth d.released t+1)).length→0≤nth (d.released.set t (nth d.released t+1)) i∧nth (d.released.set t (nth d.released t+1)) i≤100000:=by
  intro i hi
  rw [List.length_set] at hi
  rw [nth_set hi]
  split
  ·omega
  ·exact h.rel i hi
 have hjob:JobOk c dom ⟨t,nth d.released t,relAt c t d,0,false,false⟩:=by
  refine ⟨by simp;omega,?_,hr,⟨hat,by show relAt c t d≤100000;omega⟩,?_⟩
  ·simpa [taskOf] using hd
  ·show 0≤(0:Int)∧0 < (taskOf c t).budget
   simp only [taskOf,Int.toNat_natCast];omega
 unfold relStep
 split
 ·rename_i hlt
  exact ⟨h.isD,by simpa using h.lrel,h.lin,h.lout,h.ltak,hrel,h.next,h.tak,by simp;omega,jobOk_append h.job hjob,h.ring⟩
 ·exact ⟨h.isD,by simpa using h.lrel,h.lin,h.lout,h.ltak,hrel,h.next,h.tak,h.njobs,h.job,h.ring⟩
theorem relTask_ok {c:TCfg}{dom now:Int}{t:Nat}{d:TDom}(hc:CfgOk c)(hn:now≤100000)(ht:t < c.tasks.length)(h:DomOkW c dom d):DomOkW c dom (relTask c dom now t d):=by
 unfold relTask
 split
 ·rename_i hd
  exact relLoop_keeps (fun d hp hcan=>relStep_ok hc hn ht hd hp hcan) _ _ h
 ·exact h
theorem relAll_ok {c:TCfg}{dom now:Int}{d:TDom}(hc:CfgOk c)(hn:now≤100000)(h:DomOkW c dom d):DomOkW c dom (relAll c dom now d):=
 upTo_keeps (N:=c.tasks.length) (fun i s hi hs=>relTask_ok hc hn hi hs) _ _ _ (by omega) h
theorem missStep_ok {c:TCfg}{dom now:Int}{i:Nat}{d:TDom}(h:DomOkW c dom d):DomOkW c dom (missStep c now i d):=by
 unfold missStep
 split
 ·refine ⟨h.isD,h.lrel,h.lin,h.lout,h.ltak,h.rel,h.next,h.tak,by simpa using h.njobs,fun k hk=>?_,h.ring⟩
  simp only [List.length_set] at hk
  show JobOk c dom (nth (d.jobs.set i _) k)
  rw [nth_set hk]
  split
  ·rename_i e;subst e
   have:=h.job i hk
   exact ⟨this.task,this.dom,this.number,this.released,this.used⟩
  ·exact h.job k hk
 ·exact h
theorem missStep_length (c:TCfg)(now:Int)(i:Nat)(d:TDom):(missStep c now i d).jobs.length=d.jobs.length:=by unfold missStep;split<;>simp
theorem missStep_released (c:TCfg)(now:Int)(i:Nat)(d:TDom):(missStep c now i d).released=d.released:=by unfold missStep;split<;>rfl
theorem missAll_ok {c:TCfg}{dom now:Int}{d:TDom}(h:DomOkW c dom d):DomOkW c dom (missAll c now d):=
 upTo_keeps (N:=d.jobs.length) (fun i s _ hs=>missStep_ok hs) _ _ _ (by omega) h
theorem release_okW {c:TCfg}{dom now:Int}{d:TDom}(hc:CfgOk c)(hn:now≤100000)(h:DomOkW c dom d):DomOkW c dom (releaseOf c dom now d):=missAll_ok (relAll_ok hc hn h)
theorem release_same {S:Type}{g:TDom→S}(h1:∀d js ev rl,g {d with jobs:=js,events:=ev,released:=rl} =g d)(c:TCfg)(dom now:Int)(d:TDom):g (releaseOf c dom now d)=g d:=by
 have hs:∀t d,g (relStep c t d)=g d:=fun t d=>by
  unfold relStep
  split
  ·exact h1 _ _ _ _
  ·exact h1 d d.jobs d.events _
 have hm:∀i d,g (missStep c now i d)=g d:=fun i d=>by
  unfold missStep
  split
  ·exact h1 d _ _ d.released
  ·rfl
 have hl:∀t n d,g (relLoop c t now n d)=g d:=fun t n d=>relLoop_keeps (P:=fun x=>g x=g d) (fun x hx _=>(hs t x).trans hx) n d rfl
 have ht:∀t d,g (relTask c dom now t d)=g d:=fun t d=>by
  unfold relTask
  split
  ·exact hl _ _ _
  ·rfl
 have ha:g (relAll c dom now d)=g d:=upTo_keeps (P:=fun x=>g x=g d) (N:=c.tasks.length) (fun t x _ hx=>(ht t x).trans hx) _ _ _ (by omega) rfl
 exact (upTo_keeps (P:=fun x=>g x=g (relAll c dom now d)) (N:=(relAll c dom now d).jobs.length) (fun t x _ hx=>(hm t x).trans hx) _ _ _ (by omega) rfl).trans ha
theorem release_outs (c:TCfg)(dom now:Int)(d:TDom):(releaseOf c dom now d).outs=d.outs:=release_same (g:=TDom.outs) (fun _ _ _ _=>rfl) c dom now d
theorem relCan_other {c:TCfg}{t u:Nat}{now:Int}{d:TDom}(hne:t≠u):relCan c u now (relStep c t d)=relCan c u now d:=by
 unfold relCan relAt
 rw [relStep_released,nth_set_ne hne]
theorem relLoop_other {c:TCfg}{t u:Nat}{now:Int}(hne:t≠u)(n:Nat)(d:TDom):relCan c u now (relLoop c t now n d)=relCan c u now d:=
 relLoop_keeps (P:=fun s=>relCan c u now s=relCan c u now d) (fun s hs _=>(relCan_other hne).trans hs) n d rfl
theorem relTask_length {c:TCfg}{dom now:Int}{t:Nat}{d:TDom} :(relTask c dom now t d).released.length=d.released.length:=by
 unfold relTask
 split
 ·exact relLoop_keeps (P:=fun s=>s.released.length=d.released.length) (fun s hs _=>by rw [relStep_released,List.length_set];exact hs) _ _ rfl
 ·rfl
theorem relTask_other {c:TCfg}{dom now:Int}{t u:Nat}{d:TDom}(hne:t≠u):relCan c u now (relTask c dom now t d)=relCan c u now d:=by
 unfold relTask
 split
 ·exact relLoop_other hne _ _
 ·rfl
theorem relTask_done {c:TCfg}{dom now:Int}{t:Nat}{d:TDom}(ht:t < d.released.length)(hd:(nth c.tasks t).dom=dom):relCan c t now (relTask c dom now t d)=false:=by
 unfold relTask
 rw [if_pos hd]
 exact relLoop_done _ _ (Nat.le_refl _) ht
theorem upTo_last {S:Type}(f:Nat→S→S):∀(n i:Nat) (s:S),upTo f (n+1) i s=f (i+n) (upTo f n i s):=by
 intro n
 induction n with
 |zero=>intro i s;rfl
 |succ n ih=>
  intro i s
  rw [show upTo f (n+1+1) i s=upTo f (n+1) (i+1) (f i s) from rfl,ih (i+1) (f i s)]
  rw [show i+1+n=i+(n+1) by omega];rfl
theorem upTo_all {S:Type}{f:Nat→S→S}{I:S→Prop}{P:Nat→S→Prop}{N:Nat}(hI:∀i s,i < N→I s→I (f i s))(hP:∀i s,i < N→I s→P i (f i s))(hK:∀i j s,i < N→j < N→j≠i→I s→P j s→P j (f i s)):
  ∀n s,n≤N→I s→I (upTo f n 0 s)∧∀j,j < n→P j (upTo f n 0 s):=by
 intro n
 induction n with
 |zero=>intro s _ hs;exact ⟨hs,fun j hj=>by omega⟩
 |succ n ih=>
  intro s hn hs
  obtain ⟨h1,h2⟩:=ih s (by omega) hs
  rw [upTo_last,Nat.zero_add]
  refine ⟨hI n _ (by omega) h1,fun j hj=>?_⟩
  by_cases e:j=n
  ·subst e;exact hP j _ (by omega) h1
  ·exact hK n j _ (by omega) (by omega) e h1 (h2 j (by omega))
theorem relAll_done {c:TCfg}{dom now:Int}{d:TDom}(hl:d.released.length=c.tasks.length):(relAll c dom now d).released.length=c.tasks.length∧∀t,t < c.tasks.length→(nth c.tasks t).dom=dom→relCan c t now (relAll c dom now d)=false:=
 upTo_all (f:=relTask c dom now) (I:=fun s=>s.released.length=c.tasks.length) (P:=fun t s=>(nth c.tasks t).dom=dom→relCan c t now s=false) (N:=c.tasks.length)
  (fun i s _ hs=>relTask_length.trans hs) (fun i s hi hs hd=>relTask_done (by rw [hs];exact hi) hd) (fun i j s hi hj hne hs hp hd=>(relTask_other (Ne.symm hne)).trans (hp hd)) _ d (Nat.le_refl _) hl
theorem missAll_released (c:TCfg)(now:Int)(d:TDom):(missAll c now d).released=d.released:=
 upTo_keeps (P:=fun s=>s.released=d.released) (N:=d.jobs.length) (fun i s _ hs=>(missStep_released c now i s).trans hs) _ _ _ (by omega) rfl
theorem best_late {c:TCfg}{js:List TJob} :(bestOf c js < 0↔js.length=0)∧bestOf c js < js.length∧(0≤bestOf c js→∀i,i < js.length→lateOf c (nth js (bestOf c js).toNat)≤lateOf c (nth js i)):=by
 rcases bestOf_cases c js with ⟨rfl,h⟩|⟨i,hi,h,hb⟩
 ·rw [h];simp
 ·rw [h]
  refine ⟨by omega,by omega,fun _ j hj=>?_⟩
  simp only [Int.toNat_natCast]
  by_cases e:j=i
  ·subst e;exact Int.le_refl _
  ·have:=aheadI_iff.1 (hb j hj e)
   rw [aheadJ_iff,aheadJ_false] at this
   omega
theorem tk_snoc {T:Type}[Inhabited T]{xs:List T}{k:Nat}(h:k < xs.length):xs.take (k+1)=xs.take k++[nth xs k]:=by
 rw [List.take_add_one,nth_eq h,List.getElem?_eq_getElem h];rfl
def hitA (owners:List Int) (dom t0 t1:Int) (a:TArr):Bool:=nth owners a.line.toNat==dom&&decide (t0≤a.t)&&decide (a.t < t1)
def cameN (owners:List Int) (dom t0 t1:Int) (l:List TArr) (j:Nat):Nat:=(l.filter fun a=>a.line==(j:Int)&&hitA owners dom t0 t1 a).length
def cameOf (owners:List Int) (dom t0 t1:Int) (l:List TArr):List Int:=(List.range owners.length).map fun j=>(cameN owners dom t0 t1 l j:Int)
theorem cameOf_length (owners:List Int)(dom t0 t1:Int)(l:List TArr):(cameOf owners dom t0 t1 l).length=owners.length:=by simp [cameOf]
theorem nth_cameOf {owners:List Int}{dom t0 t1:Int}{l:List TArr}{j:Nat}(h:j < owners.length):nth (cameOf owners dom t0 t1 l) j=cameN owners dom t0 t1 l j:=by
 rw [nth_eq (by rw [cameOf_length];exact h)];simp [cameOf]
theorem cameN_le (owners:List Int)(dom t0 t1:Int)(l:List TArr)(j:Nat):cameN owners dom t0 t1 l j≤l.length:=List.length_filter_le _ _
theorem cameOf_nil (owners:List Int)(dom t0 t1:Int):cameOf owners dom t0 t1 []=List.replicate owners.length 0:=by
 refine List.ext_getElem (by simp [cameOf]) fun i h1 h2=>?_
 simp [cameOf,cameN]
theorem cameN_snoc (owners:List Int)(dom t0 t1:Int)(l:List TArr)(a:TArr)(j:Nat):cameN owners dom t0 t1 (l++[a]) j=cameN owners dom t0 t1 l j+(if a.line=(j:Int)∧hitA owners dom t0 t1 a=true then 1 else 0):=by
 unfold cameN
 rw [List.filter_append,List.length_append]
 congr 1
 by_cases h1:a.line=(j:Int)
 ·cases h2:hitA owners dom t0 t1 a<;>simp [h1,h2]
 ·simp [h1]
theorem cameOf_miss {owners:List Int}{dom t0 t1:Int}{l:List TArr}{a:TArr}(h:hitA owners dom t0 t1 a=false):cameOf owners dom t0 t1 (l++[a])=cameOf owners dom t0 t1 l:=by
 unfold cameOf
 refine List.map_congr_left fun j _=>?_
 rw [cameN_snoc,h];simp
theorem cameOf_hit {owners:List Int}{dom t0 t1:Int}{l:List TArr}{a:TArr}{m:Nat}(hm:a.line=(m:Int))(hlt:m < owners.length)(h:hitA owners dom t0 t1 a=true):
  cameOf owners dom t0 t1 (l++[a])=(cameOf owners dom t0 t1 l).set m (nth (cameOf owners dom t0 t1 l) m+1):=by
 rw [nth_cameOf hlt]
 refine List.ext_getElem (by simp [cameOf]) fun i h1 h2=>?_
 rw [List.getElem_set]
 simp only [cameOf,List.getElem_map,List.getElem_range]
 rw [cameN_snoc,h,hm]
 by_cases e:m=i
 ·subst e;simp
 ·rw [if_neg e,if_neg (by omega)];simp
def openStep (ns:List Int) (i:Nat) (d:TDom):TDom:= {d with taken:=d.taken.set i (min 15 (nth d.taken i+nth ns i))}
def openTaken (ns:List Int) (d:TDom):TDom:=upTo (openStep ns) ns.length 0 d
def slotDom (c:TCfg) (s:Int):Int:=(nth c.slots s.toNat).dom
def openOf (c:TCfg) (l:List TArr) (s:Int) (d:TDom) (t0 t1:Int):TDom:=
 let d1:=openTaken (cameOf c.owners (slotDom c s) t0 t1 l) d
 {d1 with events:=d1.events++[⟨t1,1,s,0⟩]}
theorem openTaken_eq (ns:List Int)(d:TDom):∀n i,∃tk,tk.length=d.taken.length∧upTo (openStep ns) n i d= {d with taken:=tk} :=by
 intro n
 induction n generalizing d with
 |zero=>intro i;exact ⟨d.taken,rfl,rfl⟩
 |succ n ih=>
  intro i
  obtain ⟨tk,h1,h2⟩:=ih (openStep ns i d) (i+1)
  exact ⟨tk,by rw [h1];simp [openStep],h2⟩
theorem openTaken_at (ns:List Int)(d:TDom):∀i j,i≤j→nth (upTo (openStep ns) i 0 d).taken j=nth d.taken j:=by
 intro i
 induction i with
 |zero=>intro j _;rfl
 |succ i ih=>
  intro j hj
  rw [upTo_last,Nat.zero_add]
  show nth ((upTo (openStep ns) i 0 d).taken.set i _) j=_
  rw [nth_set_ne (by omega)]
  exact ih j (by omega)
def comeR (r:TRing) (size:Int) (l:List Int):TRing:=⟨comeVals r.vals l size.toNat,comeLost r.vals l r.lost size.toNat⟩
def moveTo (c:TCfg) (i:Nat) (ds:List TDom):List TDom:=
 ds.set (nth c.chans i).dst.toNat {nth ds (nth c.chans i).dst.toNat with ins:=(nth ds (nth c.chans i).dst.toNat).ins.set i (comeR (nth (nth ds (nth c.chans i).dst.toNat).ins i) (nth c.chans i).size (nth (nth ds (nth c.chans i).src.toNat).outs i))}
def emptyOut (c:TCfg) (i:Nat) (ds:List TDom):List TDom:=ds.set (nth c.chans i).src.toNat {nth ds (nth c.chans i).src.toNat with outs:=(nth ds (nth c.chans i).src.toNat).outs.set i []}
def closeStep (c:TCfg) (from_:Int) (i:Nat) (ds:List TDom):List TDom:=if (nth c.chans i).src=from_ then emptyOut c i (moveTo c i ds) else ds
def closeOf (c:TCfg) (s:Int) (ds:List TDom):List TDom:=upTo (closeStep c (slotDom c s)) c.chans.length 0 ds
structure LvOk (c:TCfg) (ds:List TDom):Prop where
 len:(ds.length:Int)=c.doms
 ins:∀k,k < ds.length→(nth ds k).ins.length=c.chans.length
 outs:∀k,k < ds.length→(nth ds k).outs.length=c.chans.length
 ring:∀k i,k < ds.length→i < c.chans.length→((nth (nth ds k).ins i).vals.length:Int)≤(nth c.chans i).size∧0≤(nth (nth ds k).ins i).lost∧(nth (nth ds k).ins i).lost≤100000
 out:∀k i,k < ds.length→i < c.chans.length→(nth (nth ds k).outs i).length≤1000
theorem comeR_ok {r:TRing}{size:Int}{l:List Int}(h1:1≤size)(h:(r.vals.length:Int)≤size∧0≤r.lost∧r.lost≤100000):((comeR r size l).vals.length:Int)≤size∧0≤(comeR r size l).lost∧(comeR r size l).lost≤100000:=by
 have:comeN r.vals l size.toNat≤l.length:=by unfold comeN;omega
 have h3:(l.take (comeN r.vals l size.toNat)).length=comeN r.vals l size.toNat:=by rw [List.length_take];omega
 refine ⟨?_,?_,?_⟩
 ·show ((comeVals r.vals l size.toNat).length:Int)≤size
  unfold comeVals
  rw [List.length_append,h3]
  unfold comeN;omega
 ·show 0≤comeLost r.vals l r.lost size.toNat
  unfold comeLost;omega
 ·show comeLost r.vals l r.lost size.toNat≤100000
  unfold comeLost;omega
theorem LvOk.move {c:TCfg}{ds:List TDom}(ok:CfgOk c)(h:LvOk c ds){i:Nat}(hi:i < c.chans.length):LvOk c (moveTo c i ds):=by
 have hc:=ok.chan i hi
 have hl:=h.len
 have hd:(nth c.chans i).dst.toNat < ds.length:=by omega
 have key:∀k,k < ds.length→nth (moveTo c i ds) k=if (nth c.chans i).dst.toNat=k then {nth ds (nth c.chans i).dst.toNat with ins:=(nth ds (nth c.chans i).dst.toNat).ins.set i (comeR (nth (nth ds (nth c.chans i).dst.toNat).ins i) (nth c.chans i).size (nth (nth ds (nth c.chans i).src.toNat).outs i))} else nth ds k:=fun k hk=>nth_set hk
 have hlen:(moveTo c i ds).length=ds.length:=by simp [moveTo]
 refine ⟨by rw [hlen];exact hl,fun k hk=>?_,fun k hk=>?_,fun k j hk hj=>?_,fun k j hk hj=>?_⟩
 ·rw [hlen] at hk
  rw [key k hk]
  split
  ·simpa using h.ins _ hd
  ·exact h.ins k hk
 ·rw [hlen] at hk
  rw [key k hk]
  split
  ·exact h.outs _ hd
  ·exact h.outs k hk
 ·rw [hlen] at hk
  rw [key k hk]
  split
  ·dsimp only
   rw [nth_set (by rw [h.ins _ hd];exact hj)]
   split
   ·rename_i e;subst e
    exact comeR_ok hc.2.2.2.1 (h.ring _ _ hd hj)
   ·exact h.ring _ _ hd hj
  ·exact h.ring k j hk hj
 ·rw [hlen] at hk
  rw [key k hk]
  split
  ·exact h.out _ _ hd hj
  ·exact h.out k j hk hj
theorem LvOk.empty {c:TCfg}{ds:List TDom}(ok:CfgOk c)(h:LvOk c ds){i:Nat}(hi:i < c.chans.length):LvOk c (emptyOut c i ds):=by
 have hc:=ok.chan i hi
 have hl:=h.len
 have hd:(nth c.chans i).src.toNat < ds.length:=by omega
 have key:∀k,k < ds.length→nth (emptyOut c i ds) k=if (nth c.chans i).src.toNat=k then {nth ds (nth c.chans i).src.toNat with outs:=(nth ds (nth c.chans i).src.toNat).outs.set i []} else nth ds k:=fun k hk=>nth_set hk
 have hlen:(emptyOut c i ds).length=ds.length:=by simp [emptyOut]
 refine ⟨by rw [hlen];exact hl,fun k hk=>?_,fun k hk=>?_,fun k j hk hj=>?_,fun k j hk hj=>?_⟩
 ·rw [hlen] at hk
  rw [key k hk]
  split
  ·exact h.ins _ hd
  ·exact h.ins k hk
 ·rw [hlen] at hk
  rw [key k hk]
  split
  ·simpa using h.outs _ hd
  ·exact h.outs k hk
 ·rw [hlen] at hk
  rw [key k hk]
  split
  ·exact h.ring _ _ hd hj
  ·exact h.ring k j hk hj
 ·rw [hlen] at hk
  rw [key k hk]
  split
  ·dsimp only
   rw [nth_set (by rw [h.outs _ hd];exact hj)]
   split
   ·simp
   ·exact h.out _ _ hd hj
  ·exact h.out k j hk hj
theorem moveTo_len (c:TCfg)(i:Nat)(ds:List TDom):(moveTo c i ds).length=ds.length:=by simp [moveTo]
theorem closeStep_len (c:TCfg)(f:Int)(i:Nat)(ds:List TDom):(closeStep c f i ds).length=ds.length:=by unfold closeStep emptyOut moveTo;split<;>simp
theorem closeUp_len (c:TCfg)(f:Int):∀n i (ds:List TDom),(upTo (closeStep c f) n i ds).length=ds.length:=by
 intro n
 induction n with
 |zero=>intro i ds;rfl
 |succ n ih=>intro i ds;exact (ih (i+1) _).trans (closeStep_len c f i ds)
theorem LvOk.step {c:TCfg}{ds:List TDom}(ok:CfgOk c)(h:LvOk c ds){i:Nat}(hi:i < c.chans.length)(f:Int):LvOk c (closeStep c f i ds):=by
 unfold closeStep
 split
 ·exact (h.move ok hi).empty ok hi
 ·exact h
def aheadOf (c:TCfg):Nat→Int
 |0=>0
 |k+1=>aheadOf c k+(nth c.slots k).len
def roundOf (c:TCfg):Int:=aheadOf c c.slots.length
def startOf (c:TCfg) (r s:Int):Int:=r*roundOf c+aheadOf c s.toNat
theorem aheadOf_rng {c:TCfg}(ok:CfgOk c):∀k,k≤c.slots.length→0≤aheadOf c k∧aheadOf c k≤1000*k:=by
 intro k
 induction k with
 |zero=>intro _;exact ⟨Int.le_refl _,by simp [aheadOf]⟩
 |succ k ih=>
  intro hk
  have h1:=ih (by omega)
  have h2:=ok.slot k (by omega)
  unfold aheadOf
  omega
theorem roundOf_rng {c:TCfg}(ok:CfgOk c):0≤roundOf c∧roundOf c≤6000:=by
 have h:=aheadOf_rng ok c.slots.length (Nat.le_refl _)
 have:=ok.nslots
 unfold roundOf
 omega
theorem startOf_rng {c:TCfg}(ok:CfgOk c){r s:Int}(hr:0≤r∧r≤8)(hs:0≤s∧s≤c.slots.length):(0≤r*roundOf c∧r*roundOf c≤48000)∧(0≤aheadOf c s.toNat∧aheadOf c s.toNat≤6000):=by
 have h1:=roundOf_rng ok
 have h2:=aheadOf_rng ok s.toNat (by omega)
 have:=ok.nslots
 have h3:r*roundOf c≤8*6000:=Int.mul_le_mul hr.2 h1.2 h1.1 (by omega)
 have h4:0≤r*roundOf c:=Int.mul_nonneg hr.1 h1.1
 omega
end
end Go.Proofs.YtinlmkhlgclbfabDoor
