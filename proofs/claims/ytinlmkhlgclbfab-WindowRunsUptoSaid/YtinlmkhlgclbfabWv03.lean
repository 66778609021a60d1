/- DomQ CacheP -/
import Derived.Test.YtinlmkhlgclbfabWv02
namespace Go.Proofs.Ytinlmkhlgclbfab
open Go.RowKit
section
theorem relStep_released (c:TCfg)(t:Nat)(d:TDom):(relStep c t d).released=d.released.set t (nth d.released t+1):=by unfold relStep;split<;>rfl
theorem relCan_iff {c:TCfg}{t:Nat}{now:Int}{d:TDom} :relCan c t now d=true↔relAt c t d≤now∧nth d.released t < 100000:=by simp [relCan]
theorem relCan_stop {c:TCfg}{t:Nat}{now:Int}{d:TDom} :relCan c t now d=false↔¬ (relAt c t d≤now∧nth d.released t < 100000):=by rw [← relCan_iff];simp
theorem relLoop_done {c:TCfg}{t:Nat}{now:Int} :∀(n:Nat) (d:TDom),relFuel t d≤n→t < d.released.length→relCan c t now (relLoop c t now n d)=false:=by
 intro n
 induction n with
 |zero=>
  intro d hn ht
  rw [relCan_stop]
  unfold relFuel at hn
  simp only [relLoop]
  omega
 |succ n ih=>
  intro d hn ht
  unfold relLoop
  split
  ·rename_i hc
   have:=relCan_iff.1 hc
   refine ih _ ?_ (by rw [relStep_released];simpa using ht)
   unfold relFuel at hn⊢
   rw [relStep_released,nth_set_self ht]
   omega
  ·rename_i hc
   simpa using hc
theorem relLoop_keeps {c:TCfg}{t:Nat}{now:Int}{P:TDom→Prop}(h:∀d,P d→relCan c t now d=true→P (relStep c t d)):∀(n:Nat) (d:TDom),P d→P (relLoop c t now n d):=by
 intro n
 induction n with
 |zero=>intro d hp;exact hp
 |succ n ih=>
  intro d hp
  unfold relLoop
  split
  ·rename_i hc;exact ih _ (h d hp hc)
  ·exact hp
theorem jobOk_append {c:TCfg}{dom:Int}{js:List TJob}{j:TJob}(h:∀i,i < js.length→JobOk c dom (nth js i))(hj:JobOk c dom j):∀i,i < (js++[j]).length→JobOk c dom (nth (js++[j]) i):=by
 intro i hi
 by_cases e:i < js.length
 ·rw [nth_append_left e];exact h i e
 ·obtain rfl:i=js.length:=by simp at hi;omega
  rw [nth_append_last];exact hj
theorem relStep_ok {c:TCfg}{dom now:Int}{t:Nat}{d:TDom}(hc:CfgOk c)(hn:now≤100000)(ht:t < c.tasks.length)(hd:(nth c.tasks t).dom=dom)(h:DomOkW c dom d)(hcan:relCan c t now d=true):DomOkW c dom (relStep c t d):=by
 have h1:=relCan_iff.1 hcan
 have ht':t < d.released.length:=by rw [h.lrel];exact ht
 have hr:=h.rel t ht'
 have hT:=hc.task t ht
 have hat:0≤relAt c t d:=Int.mul_nonneg (by omega) hr.1
 have hrel:∀i,i < (d.released.set t (nth d.released t+1)).length→0≤nth (d.released.set t (nth d.released t+1)) i∧nth (d.released.set t (nth d.released t+1)) i≤100000:=by
  intro i hi
  rw [List.length_set] at hi
  rw [nth_set hi]
  split
  ·omega
  ·exact h.rel i hi
 have hjob:JobOk c dom ⟨t,nth d.released t,relAt c t d,0,false,false⟩:=by
  refine ⟨by simp;omega,?_,hr,⟨hat,by show relAt c t d≤100000;omega⟩,?_⟩
  ·simpa [taskOf] using hd
  ·show 0≤(0:Int)∧0 < (taskOf c t).budget
   simp only [taskOf,Int.toNat_natCast];omega
 unfold relStep
 split
 ·rename_i hlt
  exact ⟨h.isD,by simpa using h.lrel,h.lin,h.lout,h.ltak,hrel,h.next,h.tak,by simp;omega,jobOk_append h.job hjob,h.ring⟩
 ·exact ⟨h.isD,by simpa using h.lrel,h.lin,h.lout,h.ltak,hrel,h.next,h.tak,h.njobs,h.job,h.ring⟩
theorem relTask_ok {c:TCfg}{dom now:Int}{t:Nat}{d:TDom}(hc:CfgOk c)(hn:now≤100000)(ht:t < c.tasks.length)(h:DomOkW c dom d):DomOkW c dom (relTask c dom now t d):=by
 unfold relTask
 split
 ·rename_i hd
  exact relLoop_keeps (fun d hp hcan=>relStep_ok hc hn ht hd hp hcan) _ _ h
 ·exact h
theorem relAll_ok {c:TCfg}{dom now:Int}{d:TDom}(hc:CfgOk c)(hn:now≤100000)(h:DomOkW c dom d):DomOkW c dom (relAll c dom now d):=
 upTo_keeps (N:=c.tasks.length) (fun i s hi hs=>relTask_ok hc hn hi hs) _ _ _ (by omega) h
theorem missStep_ok {c:TCfg}{dom now:Int}{i:Nat}{d:TDom}(h:DomOkW c dom d):DomOkW c dom (missStep c now i d):=by
 unfold missStep
 split
 ·refine ⟨h.isD,h.lrel,h.lin,h.lout,h.ltak,h.rel,h.next,h.tak,by simpa using h.njobs,fun k hk=>?_,h.ring⟩
  simp only [List.length_set] at hk
  show JobOk c dom (nth (d.jobs.set i _) k)
  rw [nth_set hk]
  split
  ·rename_i e;subst e
   have:=h.job i hk
   exact ⟨this.task,this.dom,this.number,this.released,this.used⟩
  ·exact h.job k hk
 ·exact h
theorem missStep_length (c:TCfg)(now:Int)(i:Nat)(d:TDom):(missStep c now i d).jobs.length=d.jobs.length:=by unfold missStep;split<;>simp
theorem missStep_released (c:TCfg)(now:Int)(i:Nat)(d:TDom):(missStep c now i d).released=d.released:=by unfold missStep;split<;>rfl
theorem missAll_ok {c:TCfg}{dom now:Int}{d:TDom}(h:DomOkW c dom d):DomOkW c dom (missAll c now d):=
 upTo_keeps (N:=d.jobs.length) (fun i s _ hs=>missStep_ok hs) _ _ _ (by omega) h
theorem release_okW {c:TCfg}{dom now:Int}{d:TDom}(hc:CfgOk c)(hn:now≤100000)(h:DomOkW c dom d):DomOkW c dom (releaseOf c dom now d):=missAll_ok (relAll_ok hc hn h)
theorem release_same {S:Type}{g:TDom→S}(h1:∀d js ev rl,g {d with jobs:=js,events:=ev,released:=rl} =g d)(c:TCfg)(dom now:Int)(d:TDom):g (releaseOf c dom now d)=g d:=by
 have hs:∀t d,g (relStep c t d)=g d:=fun t d=>by
  unfold relStep
  split
  ·exact h1 _ _ _ _
  ·exact h1 d d.jobs d.events _
 have hm:∀i d,g (missStep c now i d)=g d:=fun i d=>by
  unfold missStep
  split
  ·exact h1 d _ _ d.released
  ·rfl
 have hl:∀t n d,g (relLoop c t now n d)=g d:=fun t n d=>relLoop_keeps (P:=fun x=>g x=g d) (fun x hx _=>(hs t x).trans hx) n d rfl
 have ht:∀t d,g (relTask c dom now t d)=g d:=fun t d=>by
  unfold relTask
  split
  ·exact hl _ _ _
  ·rfl
 have ha:g (relAll c dom now d)=g d:=upTo_keeps (P:=fun x=>g x=g d) (N:=c.tasks.length) (fun t x _ hx=>(ht t x).trans hx) _ _ _ (by omega) rfl
 exact (upTo_keeps (P:=fun x=>g x=g (relAll c dom now d)) (N:=(relAll c dom now d).jobs.length) (fun t x _ hx=>(hm t x).trans hx) _ _ _ (by omega) rfl).trans ha
theorem release_outs (c:TCfg)(dom now:Int)(d:TDom):(releaseOf c dom now d).outs=d.outs:=release_same (g:=TDom.outs) (fun _ _ _ _=>rfl) c dom now d
theorem relCan_other {c:TCfg}{t u:Nat}{now:Int}{d:TDom}(hne:t≠u):relCan c u now (relStep c t d)=relCan c u now d:=by
 unfold relCan relAt
 rw [relStep_released,nth_set_ne hne]
theorem relLoop_other {c:TCfg}{t u:Nat}{now:Int}(hne:t≠u)(n:Nat)(d:TDom):relCan c u now (relLoop c t now n d)=relCan c u now d:=
 relLoop_keeps (P:=fun s=>relCan c u now s=relCan c u now d) (fun s hs _=>(relCan_other hne).trans hs) n d rfl
theorem relTask_length {c:TCfg}{dom now:Int}{t:Nat}{d:TDom} :(relTask c dom now t d).released.length=d.released.length:=by
 unfold relTask
 split
 ·exact relLoop_keeps (P:=fun s=>s.released.length=d.released.length) (fun s hs _=>by rw [relStep_released,List.length_set];exact hs) _ _ rfl
 ·rfl
theorem relTask_other {c:TCfg}{dom now:Int}{t u:Nat}{d:TDom}(hne:t≠u):relCan c u now (relTask c dom now t d)=relCan c u now d:=by
 unfold relTask
 split
 ·exact relLoop_other hne _ _
 ·rfl
theorem relTask_done {c:TCfg}{dom now:Int}{t:Nat}{d:TDom}(ht:t < d.released.length)(hd:(nth c.tasks t).dom=dom):relCan c t now (relTask c dom now t d)=false:=by
 unfold relTask
 rw [if_pos hd]
 exact relLoop_done _ _ (Nat.le_refl _) ht
theorem upTo_last {S:Type}(f:Nat→S→S):∀(n i:Nat) (s:S),upTo f (n+1) i s=f (i+n) (upTo f n i s):=by
 intro n
 induction n with
 |zero=>intro i s;rfl
 |succ n ih=>
  intro i s
  rw [show upTo f (n+1+1) i s=upTo f (n+1) (i+1) (f i s) from rfl,ih (i+1) (f i s)]
  rw [show i+1+n=i+(n+1) by omega];rfl
theorem upTo_all {S:Type}{f:Nat→S→S}{I:S→Prop}{P:Nat→S→Prop}{N:Nat}(hI:∀i s,i < N→I s→I (f i s))(hP:∀i s,i < N→I s→P i (f i s))(hK:∀i j s,i < N→j < N→j≠i→I s→P j s→P j (f i s)):
  ∀n s,n≤N→I s→I (upTo f n 0 s)∧∀j,j < n→P j (upTo f n 0 s):=by
 intro n
 induction n with
 |zero=>intro s _ hs;exact ⟨hs,fun j hj=>by omega⟩
 |succ n ih=>
  intro s hn hs
  obtain ⟨h1,h2⟩:=ih s (by omega) hs
  rw [upTo_last,Nat.zero_add]
  refine ⟨hI n _ (by omega) h1,fun j hj=>?_⟩
  by_cases e:j=n
  ·subst e;exact hP j _ (by omega) h1
  ·exact hK n j _ (by omega) (by omega) e h1 (h2 j (by omega))
theorem relAll_done {c:TCfg}{dom now:Int}{d:TDom}(hl:d.released.length=c.tasks.length):(relAll c dom now d).released.length=c.tasks.length∧∀t,t < c.tasks.length→(nth c.tasks t).dom=dom→relCan c t now (relAll c dom now d)=false:=
 upTo_all (f:=relTask c dom now) (I:=fun s=>s.released.length=c.tasks.length) (P:=fun t s=>(nth c.tasks t).dom=dom→relCan c t now s=false) (N:=c.tasks.length)
  (fun i s _ hs=>relTask_length.trans hs) (fun i s hi hs hd=>relTask_done (by rw [hs];exact hi) hd) (fun i j s hi hj hne hs hp hd=>(relTask_other (Ne.symm hne)).trans (hp hd)) _ d (Nat.le_refl _) hl
theorem missAll_released (c:TCfg)(now:Int)(d:TDom):(missAll c now d).released=d.released:=
 upTo_keeps (P:=fun s=>s.released=d.released) (N:=d.jobs.length) (fun i s _ hs=>(missStep_released c now i s).trans hs) _ _ _ (by omega) rfl
theorem best_late {c:TCfg}{js:List TJob} :(bestOf c js < 0↔js.length=0)∧bestOf c js < js.length∧(0≤bestOf c js→∀i,i < js.length→lateOf c (nth js (bestOf c js).toNat)≤lateOf c (nth js i)):=by
 rcases bestOf_cases c js with ⟨rfl,h⟩|⟨i,hi,h,hb⟩
 ·rw [h];simp
 ·rw [h]
  refine ⟨by omega,by omega,fun _ j hj=>?_⟩
  simp only [Int.toNat_natCast]
  by_cases e:j=i
  ·subst e;exact Int.le_refl _
  ·have:=aheadI_iff.1 (hb j hj e)
   rw [aheadJ_iff,aheadJ_false] at this
   omega
def wayErr (n set:Nat) (ws:List TWay) (k:Nat):Int:=
 if inB 0 (nth ws k).line 1000=false then 3
 else if (nth ws k).line=0 then (if (nth ws k).dirty then 1 else 0)
 else if (nth ws k).line % (n:Int)≠set then 4
 else if anyI k (fun j=>(nth ws j).line==(nth ws k).line) then 6
 else if anyI k (fun j=>(nth ws j).line==0) then 4 else 0
def setErr (n set:Nat) (ws:List TWay):Int:=firstE ws.length (wayErr n set ws)
def checkCache (c:List (List TWay)):Int:=
 if inB 1 c.length 4=false then 3
 else if anyI c.length (fun i=>!inB 1 (nth c i).length 3) then 3
 else if anyI c.length (fun i=>(nth c i).length !=(nth c 0).length) then 1
 else firstE c.length (fun i=>setErr c.length i (nth c i))
def WayOk (n set:Nat) (x:TWay):Prop:=0≤x.line∧x.line≤1000∧(x.line=0→x.dirty=false)∧(x.line≠0→x.line % (n:Int)=set)
def WayR (a b:TWay):Prop:=b.line≠0→a.line≠b.line∧a.line≠0
structure SetOk (n set:Nat) (ws:List TWay):Prop where
 way:∀x∈ws,WayOk n set x
 pw:ws.Pairwise WayR
structure CacheOk (c:List (List TWay)):Prop where
 h1:1≤c.length
 h4:c.length≤4
 w1:1≤(nth c 0).length
 w3:(nth c 0).length≤3
 same:∀i,i < c.length→(nth c i).length=(nth c 0).length
 set:∀i,i < c.length→SetOk c.length i (nth c i)
theorem wayErr_zero {n set:Nat}{ws:List TWay}{k:Nat} :wayErr n set ws k=0↔WayOk n set (nth ws k)∧∀j,j < k→WayR (nth ws j) (nth ws k):=by
 unfold wayErr WayOk WayR
 by_cases h1:inB 0 (nth ws k).line 1000=false
 ·rw [if_pos h1]
  have:=inB_false.1 h1
  constructor
  ·intro h;omega
  ·intro h;omega
 ·rw [if_neg h1]
  have h1':=inB_true.1 (by simpa using h1)
  by_cases h2:(nth ws k).line=0
  ·rw [if_pos h2]
   cases h3:(nth ws k).dirty<;>simp [h2]
  ·rw [if_neg h2]
   by_cases h3:(nth ws k).line % (n:Int)≠set
   ·rw [if_pos h3]
    constructor
    ·intro h;omega
    ·intro h;exact absurd (h.1.2.2.2 h2) h3
   ·rw [if_neg h3]
    by_cases h4:anyI k (fun j=>(nth ws j).line==(nth ws k).line)=true
    ·rw [if_pos h4]
     obtain ⟨j,hj,e⟩:=anyI_true.1 h4
     constructor
     ·intro h;omega
     ·intro h;exact absurd (by simpa using e) (h.2 j hj h2).1
    ·rw [if_neg h4]
     have h4':=anyI_false.1 (by simpa using h4)
     by_cases h5:anyI k (fun j=>(nth ws j).line==0)=true
     ·rw [if_pos h5]
      obtain ⟨j,hj,e⟩:=anyI_true.1 h5
      constructor
      ·intro h;omega
      ·intro h;exact absurd (by simpa using e) (h.2 j hj h2).2
     ·rw [if_neg h5]
      have h5':=anyI_false.1 (by simpa using h5)
      simp only [true_iff]
      refine ⟨⟨h1'.1,h1'.2,fun h=>absurd h h2,fun _=>by simpa using h3⟩,fun j hj _=>⟨?_,?_⟩⟩
      ·simpa using h4' j hj
      ·simpa using h5' j hj
theorem setErr_zero {n set:Nat}{ws:List TWay} :setErr n set ws=0↔SetOk n set ws:=by
 unfold setErr
 rw [firstE_zero_iff]
 constructor
 ·intro h
  refine ⟨fun x hx=>?_,List.pairwise_iff_getElem.2 fun i j hi hj hij=>?_⟩
  ·obtain ⟨i,hi,rfl⟩:=List.getElem_of_mem hx
   have:=(wayErr_zero.1 (h i hi)).1
   rwa [nth_eq hi] at this
  ·have:=(wayErr_zero.1 (h j hj)).2 i hij
   rwa [nth_eq hi,nth_eq hj] at this
 ·intro h k hk
  refine wayErr_zero.2 ⟨h.way _ (nth_mem hk),fun j hj=>?_⟩
  have:=List.pairwise_iff_getElem.1 h.pw j k (by omega) hk hj
  rwa [nth_eq hk,nth_eq (show j < ws.length by omega)]
theorem checkCache_ok {c:List (List TWay)} :checkCache c=0↔CacheOk c:=by
 unfold checkCache
 by_cases h1:inB 1 c.length 4=false
 ·rw [if_pos h1]
  have:=inB_false.1 h1
  exact ⟨fun h=>by omega,fun h=>by have:=h.h1;have:=h.h4;omega⟩
 ·rw [if_neg h1]
  have h1':=inB_true.1 (by simpa using h1)
  by_cases h2:anyI c.length (fun i=>!inB 1 (nth c i).length 3)=true
  ·rw [if_pos h2]
   obtain ⟨i,hi,e⟩:=anyI_true.1 h2
   have e':=inB_false.1 (by simpa using e)
   exact ⟨fun h=>by omega,fun h=>by have:=h.same i hi;have:=h.w1;have:=h.w3;omega⟩
  ·rw [if_neg h2]
   have h2':=anyI_false.1 (by simpa using h2)
   by_cases h3:anyI c.length (fun i=>(nth c i).length !=(nth c 0).length)=true
   ·rw [if_pos h3]
    obtain ⟨i,hi,e⟩:=anyI_true.1 h3
    exact ⟨fun h=>by omega,fun h=>absurd (h.same i hi) (by simpa using e)⟩
   ·rw [if_neg h3]
    have h3':=anyI_false.1 (by simpa using h3)
    rw [firstE_zero_iff]
    have h0:0 < c.length:=by omega
    have h20:=inB_true.1 (show inB 1 (nth c 0).length 3=true by simpa using h2' 0 h0)
    constructor
    ·intro h
     exact ⟨by omega,by omega,by omega,by omega,fun i hi=>by simpa using h3' i hi,fun i hi=>setErr_zero.1 (h i hi)⟩
    ·intro h i hi
     exact setErr_zero.2 (h.set i hi)
def lineAt (ws:List TWay) (line:Int):Int:=findI ws.length (fun j=>(nth ws j).line==line)
def touchK (ws:List TWay) (line:Int):Nat:=if 0≤lineAt ws line then (lineAt ws line).toNat else ws.length - 1
def touchW (ws:List TWay) (line:Int) (write:Bool):TWay:=if 0≤lineAt ws line then ⟨line,(nth ws (touchK ws line)).dirty||write⟩ else ⟨line,write⟩
def touchSet (ws:List TWay) (line:Int) (write:Bool):List TWay:=touchW ws line write::ws.eraseIdx (touchK ws line)
def touchCost (ws:List TWay) (line:Int):Int:=if 0≤lineAt ws line then 1 else if (nth ws (ws.length - 1)).dirty then 15 else 10
def setOf (c:List (List TWay)) (line:Int):Nat:=(line % (c.length:Int)).toNat
def accessOf (c:List (List TWay)) (line:Int) (write:Bool):List (List TWay):=c.set (setOf c line) (touchSet (nth c (setOf c line)) line write)
def accessCost (c:List (List TWay)) (line:Int):Int:=touchCost (nth c (setOf c line)) line
def emptyCache (sets ways:Nat):List (List TWay):=List.replicate sets (List.replicate ways ⟨0,false⟩)
theorem lineAt_cases (ws:List TWay)(line:Int):
  (∃k:Nat,k < ws.length∧lineAt ws line=k∧(nth ws k).line=line∧∀j,j < k→(nth ws j).line≠line)∨(lineAt ws line= -1∧∀j,j < ws.length→(nth ws j).line≠line):=by
 unfold lineAt findI
 cases h:(List.range ws.length).find? (fun j=>(nth ws j).line==line) with
 |none=>
  rw [List.find?_eq_none] at h
  exact .inr ⟨rfl,fun j hj=>by simpa using h j (List.mem_range.2 hj)⟩
 |some k=>
  rw [List.find?_range_eq_some] at h
  exact .inl ⟨k,by simpa using h.2.1,rfl,by simpa using h.1,fun j hj=>by simpa using h.2.2 j hj⟩
theorem touchK_lt {ws:List TWay}(line:Int)(h:1≤ws.length):touchK ws line < ws.length:=by
 unfold touchK
 rcases lineAt_cases ws line with ⟨k,hk,e,_,_⟩|⟨e,_⟩
 ·rw [e];simp;omega
 ·rw [e];simp;omega
theorem touchSet_length {ws:List TWay}(line:Int)(write:Bool)(h:1≤ws.length):(touchSet ws line write).length=ws.length:=by
 unfold touchSet
 rw [List.length_cons,List.length_eraseIdx,if_pos (touchK_lt line h)]
 omega
theorem touchW_line (ws:List TWay)(line:Int)(write:Bool):(touchW ws line write).line=line:=by
 unfold touchW;split<;>rfl
theorem mem_erase {ws:List TWay}{k:Nat}{x:TWay}(h:x∈ws.eraseIdx k):x∈ws:=(List.eraseIdx_sublist ws k).subset h
theorem erase_ne {n set:Nat}{ws:List TWay}{line:Int}(hok:SetOk n set ws)(hl:1≤line):∀x∈ws.eraseIdx (touchK ws line),x.line≠line:=by
 intro x hx
 rcases lineAt_cases ws line with ⟨k,hk,e,h1,h2⟩|⟨e,h2⟩
 ·have hK:touchK ws line=k:=by unfold touchK;rw [e];simp
  rw [hK] at hx
  rw [List.mem_eraseIdx_iff_getElem] at hx
  obtain ⟨i,hi,hne,rfl⟩:=hx
  rw [nth_eq hk] at h1
  intro hx
  rcases Nat.lt_or_gt_of_ne hne with h3|h3
  ·exact absurd hx (by have:=h2 i h3;rwa [nth_eq hi] at this)
  ·have:=List.pairwise_iff_getElem.1 hok.pw k i hk hi h3 (by omega)
   omega
 ·obtain ⟨j,hj,rfl⟩:=List.getElem_of_mem (mem_erase hx)
  have:=h2 j hj
  rwa [nth_eq hj] at this
theorem touchSet_ok {n set:Nat}{ws:List TWay}{line:Int}(write:Bool)(hok:SetOk n set ws)(hl:1≤line)(hh:line≤1000)(hm:line % (n:Int)=set):SetOk n set (touchSet ws line write):=by
 refine ⟨fun x hx=>?_,?_⟩
 ·rcases List.mem_cons.1 hx with rfl|hx
  ·have:=touchW_line ws line write
   exact ⟨by omega,by omega,fun h=>by omega,fun _=>by rw [this];exact hm⟩
  ·exact hok.way x (mem_erase hx)
 ·refine List.pairwise_cons.2 ⟨fun b hb h0=>?_,hok.pw.sublist (List.eraseIdx_sublist _ _)⟩
  rw [touchW_line]
  exact ⟨Ne.symm (erase_ne hok hl b hb),by omega⟩
theorem setOf_lt {c:List (List TWay)}(h:1≤c.length)(line:Int):setOf c line < c.length:=by
 unfold setOf
 have h1:=Int.emod_lt_of_pos line (show (0:Int) < c.length by omega)
 have h2:=Int.emod_nonneg line (show (c.length:Int)≠0 by omega)
 omega
theorem access_ok {c:List (List TWay)}{line:Int}(write:Bool)(h:CacheOk c)(hl:1≤line)(hh:line≤1000):CacheOk (accessOf c line write):=by
 have hlt:=setOf_lt h.h1 line
 have hlen:(accessOf c line write).length=c.length:=by simp [accessOf]
 have hl1:∀i,i < c.length→(nth (accessOf c line write) i).length=(nth c i).length:=by
  intro i hi
  unfold accessOf
  rw [nth_set hi]
  split
  ·rename_i e;subst e;exact touchSet_length _ _ (by rw [h.same _ hi];exact h.w1)
  ·rfl
 have h0:0 < c.length:=h.h1
 refine ⟨by rw [hlen];exact h.h1,by rw [hlen];exact h.h4,by rw [hl1 0 h0];exact h.w1,by rw [hl1 0 h0];exact h.w3,fun i hi=>?_,fun i hi=>?_⟩
 ·rw [hlen] at hi;rw [hl1 i hi,hl1 0 h0];exact h.same i hi
 ·rw [hlen] at hi⊢
  unfold accessOf
  rw [nth_set hi]
  split
  ·rename_i e;subst e
   refine touchSet_ok write (h.set _ hi) hl hh ?_
   unfold setOf
   have h2:=Int.emod_nonneg line (show (c.length:Int)≠0 by omega)
   omega
  ·exact h.set i hi
theorem touchCost_bd (ws:List TWay)(line:Int):1≤touchCost ws line∧touchCost ws line≤15:=by unfold touchCost;repeat' split<;>omega
def keepOf (ws:List TWay) (line:Int):List TWay:=ws.filter (fun x=>x.line !=line)
def refFirst (ws:List TWay) (line:Int) (write:Bool):TWay:=ws.foldl (fun f x=>if x.line=line then ⟨line,write||x.dirty⟩ else f) ⟨line,write⟩
def refRest (ws:List TWay) (line:Int):List TWay:=if (keepOf ws line).length=ws.length then (keepOf ws line).dropLast else keepOf ws line
def refCost (ws:List TWay) (line:Int):Int:=if (keepOf ws line).length=ws.length then (if (nth (keepOf ws line) ((keepOf ws line).length - 1)).dirty then 15 else 10) else 1
theorem foldl_none {ws:List TWay}{line:Int}{write:Bool}(h:∀x∈ws,x.line≠line):∀f:TWay,ws.foldl (fun f x=>if x.line=line then ⟨line,write||x.dirty⟩ else f) f=f:=by
 induction ws with
 |nil=>intro f;rfl
 |cons x l ih=>
  intro f
  rw [List.foldl_cons,if_neg (h x (by simp))]
  exact ih (fun y hy=>h y (by simp [hy])) f
theorem ref_touch {n set:Nat}{ws:List TWay}{line:Int}(write:Bool)(hok:SetOk n set ws)(h1:1≤ws.length)(hl:1≤line):
  refFirst ws line write=touchW ws line write∧refRest ws line=ws.eraseIdx (touchK ws line)∧refCost ws line=touchCost ws line:=by
 rcases lineAt_cases ws line with ⟨k,hk,e,hx,h2⟩|⟨e,h2⟩
 ·have hK:touchK ws line=k:=by unfold touchK;rw [e];simp
  have hne:=erase_ne (line:=line) hok hl
  rw [hK] at hne
  have hsplit:ws=ws.take k++ws[k]::ws.drop (k+1):=by rw [List.getElem_cons_drop,List.take_append_drop]
  have her:ws.eraseIdx k=ws.take k++ws.drop (k+1):=List.eraseIdx_eq_take_drop_succ ws k
  have hkeep:keepOf ws line=ws.eraseIdx k:=by
   unfold keepOf
   rw [her]
   conv=>lhs;rw [hsplit]
   rw [List.filter_append,List.filter_cons,if_neg (by rw [nth_eq hk] at hx;simp [hx]),← List.filter_append,← her]
   rw [List.filter_eq_self]
   intro x hx
   simpa using hne x hx
  have hlen:(keepOf ws line).length≠ws.length:=by rw [hkeep,List.length_eraseIdx,if_pos hk];omega
  refine ⟨?_,?_,?_⟩
  ·unfold refFirst touchW
   rw [e,if_pos (by omega),hK]
   have hA:∀x∈ws.take k,x.line≠line:=fun x hx=>hne x (by rw [her];simp [hx])
   have hB:∀x∈ws.drop (k+1),x.line≠line:=fun x hx=>hne x (by rw [her];simp [hx])
   conv=>lhs;rw [hsplit]
   rw [List.foldl_append,foldl_none hA,List.foldl_cons,if_pos (by rw [nth_eq hk] at hx;exact hx),foldl_none hB,nth_eq hk,Bool.or_comm]
  ·unfold refRest;rw [if_neg hlen,hkeep,hK]
  ·unfold refCost touchCost;rw [if_neg hlen,e,if_pos (by omega)]
 ·have hK:touchK ws line=ws.length - 1:=by unfold touchK;rw [e];simp
  have hno:∀x∈ws,x.line≠line:=by
   intro x hx
   obtain ⟨j,hj,rfl⟩:=List.getElem_of_mem hx
   have:=h2 j hj
   rwa [nth_eq hj] at this
  have hkeep:keepOf ws line=ws:=by
   unfold keepOf
   rw [List.filter_eq_self]
   intro x hx
   simpa using hno x hx
  refine ⟨?_,?_,?_⟩
  ·unfold refFirst touchW
   rw [e,if_neg (by omega),foldl_none hno]
  ·unfold refRest
   rw [hkeep,if_pos rfl,hK,List.eraseIdx_eq_take_drop_succ,List.dropLast_eq_take]
   rw [show ws.length - 1+1=ws.length by omega,List.drop_length,List.append_nil]
  ·unfold refCost touchCost
   rw [hkeep,if_pos rfl,e,if_neg (show ¬ (0:Int)≤-1 by omega)]
end
end Go.Proofs.Ytinlmkhlgclbfab
