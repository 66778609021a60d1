/- CacheP to WinQ -/
import Derived.Test.YtinlmkhlgclbfabDoorAs06
namespace Go.Proofs.YtinlmkhlgclbfabDoor
open Go.RowKit
section
def WayOk (n set:Nat) (x:TWay):Prop:=0≤x.line∧x.line≤1000∧(x.line=0→x.dirty=false)∧(x.line≠0→x.line % (n:Int)=set)
def WayR (a b:TWay):Prop:=b.line≠0→a.line≠b.line∧a.line≠0
structure SetOk (n set:Nat) (ws:List TWay):Prop where
 way:∀x∈ws,WayOk n set x
 pw:ws.Pairwise WayR
structure CacheOk (c:List (List TWay)):Prop where
 h1:1≤c.length
 h4:c.length≤4
 w1:1≤(nth c 0).length
 w3:(nth c 0).length≤3
 same:∀i,i < c.length→(nth c i).length=(nth c 0).length
 set:∀i,i < c.length→SetOk c.length i (nth c i)
def lineAt (ws:List TWay) (line:Int):Int:=findI ws.length (fun j=>(nth ws j).line==line)
def touchK (ws:List TWay) (line:Int):Nat:=if 0≤lineAt ws line then (lineAt ws line).toNat else ws.length - 1
def touchW (ws:List TWay) (line:Int) (write:Bool):TWay:=if 0≤lineAt ws line then ⟨line,(nth ws (touchK ws line)).dirty||write⟩ else ⟨line,write⟩
def touchSet (ws:List TWay) (line:Int) (write:Bool):List TWay:=touchW ws line write::ws.eraseIdx (touchK ws line)
def touchCost (ws:List TWay) (line:Int):Int:=if 0≤lineAt ws line then 1 else if (nth ws (ws.length - 1)).dirty then 15 else 10
def setOf (c:List (List TWay)) (line:Int):Nat:=(line % (c.length:Int)).toNat
def accessOf (c:List (List TWay)) (line:Int) (write:Bool):List (List TWay):=c.set (setOf c line) (touchSet (nth c (setOf c line)) line write)
def accessCost (c:List (List TWay)) (line:Int):Int:=touchCost (nth c (setOf c line)) line
def dirties (ws:List TWay):Nat:=(ws.filter (·.dirty)).length
def flushOf (c:List (List TWay)):Int:=2+5*((c.map dirties).sum:Nat)
def emptyCache (sets ways:Nat):List (List TWay):=List.replicate sets (List.replicate ways ⟨0,false⟩)
theorem lineAt_cases (ws:List TWay)(line:Int):
  (∃k:Nat,k < ws.length∧lineAt ws line=k∧(nth ws k).line=line∧∀j,j < k→(nth ws j).line≠line)∨(lineAt ws line= -1∧∀j,j < ws.length→(nth ws j).line≠line):=by
 unfold lineAt findI
 cases h:(List.range ws.length).find? (fun j=>(nth ws j).line==line) with
 |none=>
  rw [List.find?_eq_none] at h
  exact .inr ⟨rfl,fun j hj=>by simpa using h j (List.mem_range.2 hj)⟩
 |some k=>
  rw [List.find?_range_eq_some] at h
  exact .inl ⟨k,by simpa using h.2.1,rfl,by simpa using h.1,fun j hj=>by simpa using h.2.2 j hj⟩
theorem touchK_lt {ws:List TWay}(line:Int)(h:1≤ws.length):touchK ws line < ws.length:=by
 unfold touchK
 rcases lineAt_cases ws line with ⟨k,hk,e,_,_⟩|⟨e,_⟩
 ·rw [e];simp;omega
 ·rw [e];simp;omega
theorem touchSet_length {ws:List TWay}(line:Int)(write:Bool)(h:1≤ws.length):(touchSet ws line write).length=ws.length:=by
 unfold touchSet
 rw [List.length_cons,List.length_eraseIdx,if_pos (touchK_lt line h)]
 omega
theorem touchW_line (ws:List TWay)(line:Int)(write:Bool):(touchW ws line write).line=line:=by
 unfold touchW;split<;>rfl
theorem mem_erase {ws:List TWay}{k:Nat}{x:TWay}(h:x∈ws.eraseIdx k):x∈ws:=(List.eraseIdx_sublist ws k).subset h
theorem erase_ne {n set:Nat}{ws:List TWay}{line:Int}(hok:SetOk n set ws)(hl:1≤line):∀x∈ws.eraseIdx (touchK ws line),x.line≠line:=by
 intro x hx
 rcases lineAt_cases ws line with ⟨k,hk,e,h1,h2⟩|⟨e,h2⟩
 ·have hK:touchK ws line=k:=by unfold touchK;rw [e];simp
  rw [hK] at hx
  rw [List.mem_eraseIdx_iff_getElem] at hx
  obtain ⟨i,hi,hne,rfl⟩:=hx
  rw [nth_eq hk] at h1
  intro hx
  rcases Nat.lt_or_gt_of_ne hne with h3|h3
  ·exact absurd hx (by have:=h2 i h3;rwa [nth_eq hi] at this)
  ·have:=List.pairwise_iff_getElem.1 hok.pw k i hk hi h3 (by omega)
   omega
 ·obtain ⟨j,hj,rfl⟩:=List.getElem_of_mem (mem_erase hx)
  have:=h2 j hj
  rwa [nth_eq hj] at this
theorem touchSet_ok {n set:Nat}{ws:List TWay}{line:Int}(write:Bool)(hok:SetOk n set ws)(hl:1≤line)(hh:line≤1000)(hm:line % (n:Int)=set):SetOk n set (touchSet ws line write):=by
 refine ⟨fun x hx=>?_,?_⟩
 ·rcases List.mem_cons.1 hx with rfl|hx
  ·have:=touchW_line ws line write
   exact ⟨by omega,by omega,fun h=>by omega,fun _=>by rw [this];exact hm⟩
  ·exact hok.way x (mem_erase hx)
 ·refine List.pairwise_cons.2 ⟨fun b hb h0=>?_,hok.pw.sublist (List.eraseIdx_sublist _ _)⟩
  rw [touchW_line]
  exact ⟨Ne.symm (erase_ne hok hl b hb),by omega⟩
theorem setOf_lt {c:List (List TWay)}(h:1≤c.length)(line:Int):setOf c line < c.length:=by
 unfold setOf
 have h1:=Int.emod_lt_of_pos line (show (0:Int) < c.length by omega)
 have h2:=Int.emod_nonneg line (show (c.length:Int)≠0 by omega)
 omega
theorem access_ok {c:List (List TWay)}{line:Int}(write:Bool)(h:CacheOk c)(hl:1≤line)(hh:line≤1000):CacheOk (accessOf c line write):=by
 have hlt:=setOf_lt h.h1 line
 have hlen:(accessOf c line write).length=c.length:=by simp [accessOf]
 have hl1:∀i,i < c.length→(nth (accessOf c line write) i).length=(nth c i).length:=by
  intro i hi
  unfold accessOf
  rw [nth_set hi]
  split
  ·rename_i e;subst e;exact touchSet_length _ _ (by rw [h.same _ hi];exact h.w1)
  ·rfl
 have h0:0 < c.length:=h.h1
 refine ⟨by rw [hlen];exact h.h1,by rw [hlen];exact h.h4,by rw [hl1 0 h0];exact h.w1,by rw [hl1 0 h0];exact h.w3,fun i hi=>?_,fun i hi=>?_⟩
 ·rw [hlen] at hi;rw [hl1 i hi,hl1 0 h0];exact h.same i hi
 ·rw [hlen] at hi⊢
  unfold accessOf
  rw [nth_set hi]
  split
  ·rename_i e;subst e
   refine touchSet_ok write (h.set _ hi) hl hh ?_
   unfold setOf
   have h2:=Int.emod_nonneg line (show (c.length:Int)≠0 by omega)
   omega
  ·exact h.set i hi
theorem touchCost_bd (ws:List TWay)(line:Int):1≤touchCost ws line∧touchCost ws line≤15:=by unfold touchCost;repeat' split<;>omega
theorem sum_le {xs:List Nat}{m:Nat}(h:∀x∈xs,x≤m):xs.sum≤xs.length*m:=by
 induction xs with
 |nil=>simp
 |cons x l ih=>
  rw [List.sum_cons,List.length_cons,Nat.add_mul]
  have h1:=h x (by simp)
  have h2:=ih fun y hy=>h y (by simp [hy])
  omega
theorem flush_bd {c:List (List TWay)}(h:CacheOk c):2≤flushOf c∧flushOf c≤2+5*(c.length:Int)*((nth c 0).length:Int):=by
 unfold flushOf
 refine ⟨by omega,?_⟩
 have h1:(c.map dirties).sum≤c.length*(nth c 0).length:=by
  have:=sum_le (xs:=c.map dirties) (m:=(nth c 0).length) (by
   intro x hx
   obtain ⟨ws,hws,rfl⟩:=List.mem_map.1 hx
   obtain ⟨i,hi,rfl⟩:=List.getElem_of_mem hws
   have:=h.same i hi
   rw [nth_eq hi] at this
   rw [← this]
   exact List.length_filter_le _ _)
  simpa using this
 have h2:(((c.map dirties).sum:Nat):Int)≤(c.length:Int)*((nth c 0).length:Int):=by exact_mod_cast h1
 rw [Int.mul_assoc]
 omega
theorem empty_ok {sets ways:Nat}(h1:1≤sets)(h4:sets≤4)(w1:1≤ways)(w3:ways≤3):CacheOk (emptyCache sets ways):=by
 have hn:∀i,i < sets→nth (emptyCache sets ways) i=List.replicate ways ⟨0,false⟩:=by
  intro i hi
  rw [nth_eq (by simpa [emptyCache] using hi)]
  simp [emptyCache]
 have hl:(emptyCache sets ways).length=sets:=by simp [emptyCache]
 refine ⟨by omega,by omega,by rw [hn 0 (by omega)];simpa using w1,by rw [hn 0 (by omega)];simpa using w3,fun i hi=>?_,fun i hi=>?_⟩
 ·rw [hl] at hi;rw [hn 0 (by omega),hn i hi]
 ·rw [hl] at hi⊢
  rw [hn i hi]
  refine ⟨fun x hx=>?_,?_⟩
  ·rw [List.mem_replicate] at hx
   rw [hx.2]
   exact ⟨by simp,by simp,fun _=>rfl,fun h=>absurd rfl h⟩
  ·rw [List.pairwise_replicate]
   exact .inr fun h=>absurd rfl h
def actN (a:TAct):Bool:=if a.kind=1 then inB 1 a.n 200 else if a.kind=2∨a.kind=3 then inB 1 a.n 1000 else if a.kind=4∨a.kind=5∨a.kind=7 then decide (0≤a.n) else true
def actErr (a:TAct):Int:=
 if !inB 1 a.kind 8 then 7
 else if !actN a∨(a.kind=4∧inB 0 a.value 255=false) then 3
 else if (a.kind≠4∧a.value≠0)∨((a.kind=6∨a.kind=8)∧a.n≠0) then 1 else 0
def worstA (a:TAct):Int:=if a.kind=1 then a.n else if a.kind=2∨a.kind=3 then 15 else 3
def actsErr (l:List TAct):Int:=if 60 < l.length then 2 else firstE l.length fun i=>actErr (nth l i)
structure ActOk (a:TAct):Prop where
 kind:1≤a.kind∧a.kind≤8
 comp:a.kind=1→1≤a.n∧a.n≤200
 line:a.kind=2∨a.kind=3→1≤a.n∧a.n≤1000
 name:a.kind=4∨a.kind=5∨a.kind=7→0≤a.n
 none:a.kind=6∨a.kind=8→a.n=0
 val:a.kind=4→0≤a.value∧a.value≤255
 noval:a.kind≠4→a.value=0
theorem actErr_zero {a:TAct} :actErr a=0↔ActOk a:=by
 unfold actErr actN
 constructor
 ·intro h
  rw [ite_zero (by omega),ite_zero (by omega),ite_zero (by omega)] at h
  simp only [Bool.not_eq_true',Bool.not_eq_false,inB_true,not_or,not_and,and_true,ne_eq,Decidable.not_not] at h
  obtain ⟨h1,⟨h2,h3⟩,h4,h5⟩:=h
  refine ⟨h1,fun e=>?_,fun e=>?_,fun e=>?_,fun e=>h5 e,fun e=>?_,fun e=>h4 e⟩
  ·rw [if_pos e,inB_true] at h2;exact h2
  ·rw [if_neg (by omega),if_pos e,inB_true] at h2;exact h2
  ·rw [if_neg (by omega),if_neg (by omega),if_pos e] at h2;simpa using h2
  ·simpa using h3 e
 ·intro h
  rw [ite_zero (by omega),ite_zero (by omega),ite_zero (by omega)]
  simp only [Bool.not_eq_true',Bool.not_eq_false,inB_true,not_or,not_and,and_true,ne_eq,Decidable.not_not]
  refine ⟨h.kind,⟨?_,fun e=>?_⟩,fun e=>h.noval e,fun e=>h.none e⟩
  ·split
   ·rename_i e;rw [inB_true];exact h.comp e
   ·split
    ·rename_i e;rw [inB_true];exact h.line e
    ·split
     ·rename_i e;simpa using h.name e
     ·rfl
  ·simpa using h.val e
theorem worstA_bd {a:TAct}(h:ActOk a):1≤worstA a∧worstA a≤200:=by
 unfold worstA
 have:=h.comp
 split
 ·exact this (by assumption)
 ·split<;>omega
def isMem (a:TAct):Bool:=decide (a.kind=2)||decide (a.kind=3)
def spendN (k:List (List TWay)) (a:TAct):Int:=if isMem a then accessCost k a.n else worstA a
def spendK (k:List (List TWay)) (a:TAct):List (List TWay):=if isMem a then accessOf k a.n (decide (a.kind=3)) else k
def refusedA (c:TCfg) (dom:Int) (a:TAct):Bool:=
 if a.kind=4 then decide ((c.chans.length:Int)≤a.n)||decide ((nth c.chans a.n.toNat).src≠dom)
 else if a.kind=5 then decide ((c.chans.length:Int)≤a.n)||decide ((nth c.chans a.n.toNat).dst≠dom)
 else if a.kind=7 then decide ((c.owners.length:Int)≤a.n)||decide (nth c.owners a.n.toNat≠dom)
 else false
def tellOf (d:TDom) (t kind a b:Int):TDom:= {d with events:=d.events++[⟨t,kind,a,b⟩]}
def takeR (r:TRing):TRing:=⟨restOf r.vals,r.lost⟩
def happenA (c:TCfg) (now:Int) (a:TAct) (cost:Int) (d:TDom):TDom:=
 if a.kind≤3 then tellOf d now 11 cost 0
 else if a.kind=4 then tellOf {d with outs:=d.outs.set a.n.toNat (nth d.outs a.n.toNat++[a.value])} now 9 a.n 0
 else if a.kind=5 then tellOf {d with ins:=d.ins.set a.n.toNat (takeR (nth d.ins a.n.toNat))} now 8 a.n (takeV (nth d.ins a.n.toNat).vals)
 else if a.kind=6 then tellOf d now 7 (now - now % c.quantum) 0
 else if a.kind=7 then {tellOf d now 10 a.n (nth d.taken a.n.toNat) with taken:=d.taken.set a.n.toNat 0}
 else d
def startJ (now:Int) (i:Nat) (d:TDom):TDom:=
 if (nth d.jobs i).ran then d else tellOf {d with jobs:=d.jobs.set i {nth d.jobs i with ran:=true} } now 3 (nth d.jobs i).task (nth d.jobs i).number
def usedJ (cost:Int) (i:Nat) (d:TDom):TDom:= {d with jobs:=d.jobs.set i {nth d.jobs i with used:=(nth d.jobs i).used+cost},next:=d.next+1}
def overA (c:TCfg) (a:TAct) (j:TJob):Int:=if a.kind=8 then 4 else if (taskOf c j.task).budget≤j.used then 5 else 0
def endJ (c:TCfg) (now:Int) (a:TAct) (i:Nat) (d:TDom):TDom:=
 if overA c a (nth d.jobs i) > 0 then {tellOf d now (overA c a (nth d.jobs i)) (nth d.jobs i).task (nth d.jobs i).number with jobs:=d.jobs.eraseIdx i} else d
def midJ (c:TCfg) (dom now:Int) (a:TAct) (cost:Int) (d:TDom):TDom:=
 if refusedA c dom a then tellOf d now 12 (d.next - 1) 0 else happenA c now a cost d
def doA (c:TCfg) (dom now:Int) (i:Nat) (a:TAct) (cost:Int) (d:TDom):TDom:=
 endJ c (now+cost) a i (midJ c dom (now+cost) a cost (usedJ cost i (startJ now i d)))
structure Win where
 now:Int
 d:TDom
 k:List (List TWay)
def idleTo (to_ at_:Int):Int:=if 0≤at_∧at_ < to_ then at_ else to_
def winStep (c:TCfg) (dom:Int) (l:List TAct) (to_:Int) (s:Win):Win:=
 let d:=releaseOf c dom s.now s.d
 let i:=bestOf c d.jobs
 if i < 0 then ⟨idleTo to_ (dueOf c dom d),d,s.k⟩
 else if (l.length:Int)≤d.next∨to_ - s.now < worstA (nth l d.next.toNat) then ⟨to_,d,s.k⟩
 else
  let a:=nth l d.next.toNat
  ⟨s.now+spendN s.k a,doA c dom s.now i.toNat a (spendN s.k a) d,spendK s.k a⟩
def winLoop (c:TCfg) (dom:Int) (l:List TAct) (to_:Int):Nat→Win→Win
 |0,s=>s
 |n+1,s=>if s.now < to_ then winLoop c dom l to_ n (winStep c dom l to_ s) else s
def winOf (c:TCfg) (dom:Int) (d:TDom) (k:List (List TWay)) (l:List TAct) (from_ to_:Int):Win:=winLoop c dom l to_ (to_ - from_).toNat ⟨from_,d,k⟩
def windowD (c:TCfg) (dom:Int) (d:TDom) (k:List (List TWay)) (l:List TAct) (from_ to_:Int):TDom:=releaseOf c dom to_ (winOf c dom d k l from_ to_).d
def windowK (c:TCfg) (dom:Int) (d:TDom) (k:List (List TWay)) (l:List TAct) (from_ to_:Int):List (List TWay):=(winOf c dom d k l from_ to_).k
theorem relAt_bd {c:TCfg}{dom:Int}{d:TDom}(hc:CfgOk c)(h:DomOkW c dom d){t:Nat}(ht:t < c.tasks.length):0≤relAt c t d:=by
 have h1:=(hc.task t ht).2.1
 have h2:=h.rel t (by rw [h.lrel];exact ht)
 exact Int.mul_nonneg (by omega) h2.1
theorem due_later {c:TCfg}{dom now:Int}{d:TDom}(hc:CfgOk c)(h:DomOkW c dom d)(hn:now < 100000)(h0:0≤dueOf c dom (releaseOf c dom now d)):now < dueOf c dom (releaseOf c dom now d):=by
 have hr:=release_okW (dom:=dom) hc (Int.le_of_lt hn) h
 have hd:=dueUp_isDue (c:=c) (dom:=dom) (d:=releaseOf c dom now d) c.tasks.length (fun t ht=>relAt_bd hc hr ht)
 unfold dueOf at h0⊢
 rcases hd with ⟨e,_⟩|⟨t,ht,htd,e,_,_⟩
 ·rw [e] at h0;omega
 ·rw [e]
  have h1:=(relAll_done (c:=c) (dom:=dom) (now:=now) h.lrel).2 t ht htd
  rw [relCan_stop] at h1
  have h2:relAt c t (releaseOf c dom now d)=relAt c t (relAll c dom now d):=by unfold relAt releaseOf;rw [missAll_released]
  have h3:nth (releaseOf c dom now d).released t=nth (relAll c dom now d).released t:=by unfold releaseOf;rw [missAll_released]
  have h4:=hr.rel t (by rw [hr.lrel];exact ht)
  have h5:=(hc.task t ht).2.1
  rw [← h2,← h3] at h1
  by_cases h6:nth (releaseOf c dom now d).released t < 100000
  ·omega
  ·have h7:nth (releaseOf c dom now d).released t=100000:=by omega
   have h8:relAt c t (releaseOf c dom now d)=(nth c.tasks t).period*100000:=by unfold relAt;rw [h7]
   omega
theorem relStep_grow (c:TCfg)(t:Nat)(d:TDom)(h:d.jobs.length≤20):(relStep c t d).events.length+(20 - (relStep c t d).jobs.length)≤d.events.length+(20 - d.jobs.length)∧(relStep c t d).jobs.length≤20:=by
 unfold relStep
 split
 ·simp;omega
 ·exact ⟨Nat.le_refl _,h⟩
theorem release_grow (c:TCfg)(dom now:Int)(d:TDom)(h:d.jobs.length≤20):(releaseOf c dom now d).events.length≤d.events.length+40:=by
 let P:TDom→Prop:=fun x=>x.events.length+(20 - x.jobs.length)≤d.events.length+(20 - d.jobs.length)∧x.jobs.length≤20
 have ha:P (relAll c dom now d):=upTo_keeps (P:=P) (N:=c.tasks.length) (fun t x _ hx=>by
  unfold relTask
  split
  ·exact relLoop_keeps (P:=P) (fun y hy _=>by
    have:=relStep_grow c t y hy.2
    exact ⟨Nat.le_trans this.1 hy.1,this.2⟩) _ _ hx
  ·exact hx) _ _ _ (by omega) ⟨Nat.le_refl _,h⟩
 have hm:∀n i x,(upTo (missStep c now) n i x).events.length≤x.events.length+n:=by
  intro n
  induction n with
  |zero=>intro i x;exact Nat.le_refl _
  |succ n ih=>
   intro i x
   have h1:=ih (i+1) (missStep c now i x)
   have h2:(missStep c now i x).events.length≤x.events.length+1:=by unfold missStep;split<;>simp
   show (upTo (missStep c now) n (i+1) (missStep c now i x)).events.length≤_
   omega
 have h3:=hm (relAll c dom now d).jobs.length 0 (relAll c dom now d)
 have h4:=ha.1
 have h5:=ha.2
 show (upTo (missStep c now) (relAll c dom now d).jobs.length 0 (relAll c dom now d)).events.length≤_
 omega
theorem best_lt {c:TCfg}{js:List TJob}(h:¬ bestOf c js < 0):(bestOf c js).toNat < js.length:=by
 have:=(best_late (c:=c) (js:=js)).2.1
 omega
theorem DomOkW.tell {c:TCfg}{dom:Int}{d:TDom}(h:DomOkW c dom d)(t k a b:Int):DomOkW c dom (tellOf d t k a b):=⟨h.isD,h.lrel,h.lin,h.lout,h.ltak,h.rel,h.next,h.tak,h.njobs,h.job,h.ring⟩
theorem DomOkW.setJob {c:TCfg}{dom:Int}{d:TDom}(h:DomOkW c dom d){i:Nat}{j:TJob}(hj:JobOk c dom j):DomOkW c dom {d with jobs:=d.jobs.set i j} :=
 ⟨h.isD,h.lrel,h.lin,h.lout,h.ltak,h.rel,h.next,h.tak,by simpa using h.njobs,fun k hk=>by
  simp only [List.length_set] at hk
  show JobOk c dom (nth (d.jobs.set i j) k)
  rw [nth_set hk]
  split
  ·exact hj
  ·exact h.job k hk,h.ring⟩
structure DomOkI (c:TCfg) (dom:Int) (i:Nat) (d:TDom):Prop where
 lt:i < d.jobs.length
 isD:0≤dom∧dom < c.doms
 lrel:d.released.length=c.tasks.length
 lin:d.ins.length=c.chans.length
 lout:d.outs.length=c.chans.length
 ltak:d.taken.length=c.owners.length
 rel:∀i,i < d.released.length→0≤nth d.released i∧nth d.released i≤100000
 next:0≤d.next∧d.next≤100000
 tak:∀i,i < d.taken.length→0≤nth d.taken i∧nth d.taken i≤15
 njobs:d.jobs.length≤20
 job:∀k,k < d.jobs.length→k≠i→JobOk c dom (nth d.jobs k)
 jobi:JobOk c dom {nth d.jobs i with used:=0} ∧0≤(nth d.jobs i).used∧(nth d.jobs i).used≤6000
 ring:∀i,i < d.ins.length→checkRing (nth d.ins i).vals (nth d.ins i).lost (nth c.chans i).size=0
theorem startJ_ok {c:TCfg}{dom now:Int}{i:Nat}{d:TDom}(h:DomOkW c dom d)(hi:i < d.jobs.length):DomOkW c dom (startJ now i d)∧(startJ now i d).jobs.length=d.jobs.length:=by
 unfold startJ
 split
 ·exact ⟨h,rfl⟩
 ·have hj:=h.job i hi
  exact ⟨(h.setJob (i:=i) (j:= {nth d.jobs i with ran:=true}) ⟨hj.task,hj.dom,hj.number,hj.released,hj.used⟩).tell _ _ _ _,by simp [tellOf]⟩
theorem budget_le {c:TCfg}{dom:Int}{j:TJob}(hc:CfgOk c)(h:JobOk c dom j):1≤(taskOf c j.task).budget∧(taskOf c j.task).budget≤5000:=by
 have:=hc.task j.task.toNat (by have:=h.task;omega)
 unfold taskOf
 omega
theorem usedJ_ok {c:TCfg}{dom cost:Int}{i:Nat}{d:TDom}(hc:CfgOk c)(h:DomOkW c dom d)(hi:i < d.jobs.length)(hn:d.next < 100000)(hcost:0≤cost∧cost≤200):DomOkI c dom i (usedJ cost i d):=by
 have hj:=h.job i hi
 have hb:=budget_le hc hj
 have hu:=hj.used
 refine ⟨by simpa [usedJ] using hi,h.isD,h.lrel,h.lin,h.lout,h.ltak,h.rel,?_,h.tak,by simpa [usedJ] using h.njobs,fun k hk hne=>?_,?_,h.ring⟩
 ·have:=h.next;show 0≤d.next+1∧d.next+1≤100000;omega
 ·simp only [usedJ,List.length_set] at hk
  show JobOk c dom (nth (d.jobs.set i _) k)
  rw [nth_set_ne (Ne.symm hne)]
  exact h.job k hk
 ·show JobOk c dom {nth (d.jobs.set i _) i with used:=0} ∧0≤(nth (d.jobs.set i _) i).used∧(nth (d.jobs.set i _) i).used≤6000
  rw [nth_set_self hi]
  refine ⟨⟨hj.task,hj.dom,hj.number,hj.released,?_⟩,?_,?_⟩
  ·exact ⟨Int.le_refl _,by show 0 < (taskOf c (nth d.jobs i).task).budget;omega⟩
  ·show 0≤(nth d.jobs i).used+cost;omega
  ·show (nth d.jobs i).used+cost≤6000;omega
theorem DomOkI.turn {c:TCfg}{dom:Int}{i:Nat}{d d':TDom}(h:DomOkI c dom i d)(e1:d'.jobs=d.jobs)(e2:d'.released=d.released)(e3:d'.next=d.next)(l1:d'.ins.length=d.ins.length)(l2:d'.outs.length=d.outs.length)(l3:d'.taken.length=d.taken.length)
  (ht:∀i,i < d'.taken.length→0≤nth d'.taken i∧nth d'.taken i≤15) (hr:∀i,i < d'.ins.length→checkRing (nth d'.ins i).vals (nth d'.ins i).lost (nth c.chans i).size=0):DomOkI c dom i d':=
 ⟨by rw [e1];exact h.lt,h.isD,by rw [e2];exact h.lrel,l1.trans h.lin,l2.trans h.lout,l3.trans h.ltak,by rw [e2];exact h.rel,by rw [e3];exact h.next,ht,by rw [e1];exact h.njobs,by rw [e1];exact h.job,by rw [e1];exact h.jobi,hr⟩
theorem areValues_true {vs:List Int} :areValues vs=true↔∀j,j < vs.length→0≤nth vs j∧nth vs j≤255:=by
 unfold areValues
 rw [Bool.not_eq_true',anyI_false]
 unfold badValue
 constructor
 ·intro h j hj;have:=h j hj;rw [Bool.not_eq_false',inB_true] at this;exact this
 ·intro h j hj;rw [Bool.not_eq_false',inB_true];exact h j hj
theorem checkRing_zero {vs:List Int}{lost size:Int} :checkRing vs lost size=0↔(1≤size∧size≤4)∧(vs.length:Int)≤size∧areValues vs=true∧0≤lost∧lost≤100000:=by
 unfold checkRing
 rw [ite_zero (by omega),ite_zero (by omega),ite_zero (by omega)]
 simp only [Bool.or_eq_true,Bool.not_eq_true',not_or,Bool.not_eq_false,inB_true,and_true]
 constructor
 ·rintro ⟨h1,h2,h3,h4⟩;exact ⟨h1,by omega,h3,h4⟩
 ·rintro ⟨h1,h2,h3,h4⟩;exact ⟨h1,by omega,h3,h4⟩
theorem nth_drop {T:Type}[Inhabited T](xs:List T)(n j:Nat):nth (xs.drop n) j=nth xs (n+j):=by unfold nth;rw [List.getD_eq_getElem?_getD,List.getElem?_drop,List.getD_eq_getElem?_getD]
theorem takeR_ok {r:TRing}{size:Int}(h:checkRing r.vals r.lost size=0):checkRing (takeR r).vals (takeR r).lost size=0:=by
 rw [checkRing_zero] at h⊢
 obtain ⟨h1,h2,h3,h4⟩:=h
 refine ⟨h1,by simp only [takeR,restOf,List.length_tail];omega,?_,h4⟩
 rw [areValues_true] at h3⊢
 intro j hj
 simp only [takeR,restOf,List.length_tail] at hj⊢
 rw [show r.vals.tail=r.vals.drop 1 by simp,nth_drop]
 exact h3 _ (by omega)
theorem midJ_ok {c:TCfg}{dom now cost:Int}{a:TAct}{i:Nat}{d:TDom}(h:DomOkI c dom i d):DomOkI c dom i (midJ c dom now a cost d):=by
 have ht:∀t k x y,DomOkI c dom i (tellOf d t k x y):=fun t k x y=>h.turn rfl rfl rfl rfl rfl rfl h.tak h.ring
 unfold midJ
 split
 ·exact ht _ _ _ _
 ·unfold happenA
  repeat' split
  ·exact ht _ _ _ _
  ·exact h.turn rfl rfl rfl rfl (by simp [tellOf]) rfl h.tak h.ring
  ·refine h.turn rfl rfl rfl (by simp [tellOf]) rfl rfl h.tak fun k hk=>?_
   simp only [tellOf,List.length_set] at hk⊢
   by_cases e:a.n.toNat=k
   ·subst e;rw [nth_set_self hk];exact takeR_ok (h.ring _ hk)
   ·rw [nth_set_ne e];exact h.ring k hk
  ·exact ht _ _ _ _
  ·refine h.turn rfl rfl rfl rfl rfl (by simp [tellOf]) (fun k hk=>?_) h.ring
   simp only [tellOf,List.length_set] at hk⊢
   by_cases e:a.n.toNat=k
   ·subst e;rw [nth_set_self hk];omega
   ·rw [nth_set_ne e];exact h.tak k hk
  ·exact h
theorem nth_eraseIdx {T:Type}[Inhabited T](xs:List T)(i k:Nat):nth (xs.eraseIdx i) k=if k < i then nth xs k else nth xs (k+1):=by
 unfold nth
 rw [List.getD_eq_getElem?_getD,List.getElem?_eraseIdx]
 split<;>rw [List.getD_eq_getElem?_getD]
theorem endJ_ok {c:TCfg}{dom now:Int}{a:TAct}{i:Nat}{d:TDom}(h:DomOkI c dom i d):DomOkW c dom (endJ c now a i d):=by
 unfold endJ
 split
 ·refine ⟨h.isD,h.lrel,h.lin,h.lout,h.ltak,h.rel,h.next,h.tak,?_,fun k hk=>?_,h.ring⟩
  ·show (d.jobs.eraseIdx i).length≤20
   rw [List.length_eraseIdx_of_lt h.lt];have:=h.njobs;omega
  ·replace hk:k < (d.jobs.eraseIdx i).length:=hk
   rw [List.length_eraseIdx_of_lt h.lt] at hk
   show JobOk c dom (nth (d.jobs.eraseIdx i) k)
   rw [nth_eraseIdx]
   split
   ·exact h.job k (by omega) (by omega)
   ·exact h.job (k+1) (by omega) (by omega)
 ·rename_i ho
  refine ⟨h.isD,h.lrel,h.lin,h.lout,h.ltak,h.rel,h.next,h.tak,h.njobs,fun k hk=>?_,h.ring⟩
  by_cases e:k=i
  ·subst e
   have hj:=h.jobi
   unfold overA at ho
   split at ho
   ·omega
   ·split at ho
    ·omega
    ·rename_i h1 h2
     exact ⟨hj.1.task,hj.1.dom,hj.1.number,hj.1.released,⟨hj.2.1,by omega⟩⟩
  ·exact h.job k hk e
theorem doA_ok {c:TCfg}{dom now cost:Int}{a:TAct}{i:Nat}{d:TDom}(hc:CfgOk c)(h:DomOkW c dom d)(hi:i < d.jobs.length)(hn:d.next < 100000)(hcost:0≤cost∧cost≤200):DomOkW c dom (doA c dom now i a cost d):=by
 have h1:=startJ_ok (now:=now) h hi
 have h2:(startJ now i d).next=d.next:=by unfold startJ;split<;>rfl
 exact endJ_ok (midJ_ok (usedJ_ok hc h1.1 (by rw [h1.2];exact hi) (by rw [h2];exact hn) hcost))
theorem spend_bd {k:List (List TWay)}{a:TAct}(ha:ActOk a):1≤spendN k a∧spendN k a≤worstA a∧worstA a≤200:=by
 have h1:=worstA_bd ha
 unfold spendN
 split
 ·rename_i hm
  have:=touchCost_bd (nth k (setOf k a.n)) a.n
  have hw:worstA a=15:=by
   unfold worstA
   simp only [isMem,Bool.or_eq_true,decide_eq_true_eq] at hm
   rw [if_neg (by omega),if_pos hm]
  unfold accessCost
  omega
 ·omega
theorem spendK_ok {k:List (List TWay)}{a:TAct}(hk:CacheOk k)(ha:ActOk a):CacheOk (spendK k a):=by
 unfold spendK
 split
 ·rename_i hm
  simp only [isMem,Bool.or_eq_true,decide_eq_true_eq] at hm
  have:=ha.line hm
  exact access_ok _ hk this.1 this.2
 ·exact hk
structure WinIn (c:TCfg) (dom:Int) (to_:Int) (s:Win):Prop where
 now:0≤s.now∧s.now≤to_
 ok:DomOkW c dom s.d
 cache:CacheOk s.k
theorem winStep_ok {c:TCfg}{dom to_:Int}{l:List TAct}{s:Win}(hc:CfgOk c)(hl:l.length≤60)(ha:∀i,i < l.length→ActOk (nth l i))(ht:to_≤100000)(h:WinIn c dom to_ s)(hlt:s.now < to_):
  WinIn c dom to_ (winStep c dom l to_ s)∧s.now < (winStep c dom l to_ s).now:=by
 have hr:=release_okW (dom:=dom) hc (show s.now≤100000 by omega) h.ok
 have h0:=h.now
 unfold winStep
 dsimp only
 split
 ·rename_i hb
  have hd:=due_later (dom:=dom) hc h.ok (show s.now < 100000 by omega)
  have:s.now < idleTo to_ (dueOf c dom (releaseOf c dom s.now s.d))∧idleTo to_ (dueOf c dom (releaseOf c dom s.now s.d))≤to_:=by
   unfold idleTo
   split
   ·rename_i h1;have:=hd h1.1;omega
   ·omega
  exact ⟨⟨⟨by dsimp only;omega,this.2⟩,hr,h.cache⟩,this.1⟩
 ·split
  ·exact ⟨⟨⟨by dsimp only;omega,Int.le_refl _⟩,hr,h.cache⟩,hlt⟩
  ·rename_i hb hn
   have hn1:=hr.next
   have hx:(releaseOf c dom s.now s.d).next.toNat < l.length:=by omega
   have hA:=ha _ hx
   have hsp:=spend_bd (k:=s.k) hA
   refine ⟨⟨⟨by dsimp only;omega,by dsimp only;omega⟩,doA_ok hc hr (best_lt hb) (by omega) (by omega),spendK_ok h.cache hA⟩,by dsimp only;omega⟩
end
end Go.Proofs.YtinlmkhlgclbfabDoor
