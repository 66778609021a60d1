/- WinQ CacheN -/
import Derived.Test.YtinlmkhlgclbfabWv06
namespace Go.Proofs.Ytinlmkhlgclbfab
open Go.RowKit
section
theorem relAt_bd {c:TCfg}{dom:Int}{d:TDom}(hc:CfgOk c)(h:DomOkW c dom d){t:Nat}(ht:t < c.tasks.length):0≤relAt c t d:=by
 have h1:=(hc.task t ht).2.1
 have h2:=h.rel t (by rw [h.lrel];exact ht)
 exact Int.mul_nonneg (by omega) h2.1
theorem due_later {c:TCfg}{dom now:Int}{d:TDom}(hc:CfgOk c)(h:DomOkW c dom d)(hn:now < 100000)(h0:0≤dueOf c dom (releaseOf c dom now d)):now < dueOf c dom (releaseOf c dom now d):=by
 have hr:=release_okW (dom:=dom) hc (Int.le_of_lt hn) h
 have hd:=dueUp_isDue (c:=c) (dom:=dom) (d:=releaseOf c dom now d) c.tasks.length (fun t ht=>relAt_bd hc hr ht)
 unfold dueOf at h0⊢
 rcases hd with ⟨e,_⟩|⟨t,ht,htd,e,_,_⟩
 ·rw [e] at h0;omega
 ·rw [e]
  have h1:=(relAll_done (c:=c) (dom:=dom) (now:=now) h.lrel).2 t ht htd
  rw [relCan_stop] at h1
  have h2:relAt c t (releaseOf c dom now d)=relAt c t (relAll c dom now d):=by unfold relAt releaseOf;rw [missAll_released]
  have h3:nth (releaseOf c dom now d).released t=nth (relAll c dom now d).released t:=by unfold releaseOf;rw [missAll_released]
  have h4:=hr.rel t (by rw [hr.lrel];exact ht)
  have h5:=(hc.task t ht).2.1
  rw [← h2,← h3] at h1
  by_cases h6:nth (releaseOf c dom now d).released t < 100000
  ·omega
  ·have h7:nth (releaseOf c dom now d).released t=100000:=by omega
   have h8:relAt c t (releaseOf c dom now d)=(nth c.tasks t).period*100000:=by unfold relAt;rw [h7]
   omega
theorem relStep_grow (c:TCfg)(t:Nat)(d:TDom)(h:d.jobs.length≤20):(relStep c t d).events.length+(20 - (relStep c t d).jobs.length)≤d.events.length+(20 - d.jobs.length)∧(relStep c t d).jobs.length≤20:=by
 unfold relStep
 split
 ·simp;omega
 ·exact ⟨Nat.le_refl _,h⟩
theorem release_grow (c:TCfg)(dom now:Int)(d:TDom)(h:d.jobs.length≤20):(releaseOf c dom now d).events.length≤d.events.length+40:=by
 let P:TDom→Prop:=fun x=>x.events.length+(20 - x.jobs.length)≤d.events.length+(20 - d.jobs.length)∧x.jobs.length≤20
 have ha:P (relAll c dom now d):=upTo_keeps (P:=P) (N:=c.tasks.length) (fun t x _ hx=>by
  unfold relTask
  split
  ·exact relLoop_keeps (P:=P) (fun y hy _=>by
    have:=relStep_grow c t y hy.2
    exact ⟨Nat.le_trans this.1 hy.1,this.2⟩) _ _ hx
  ·exact hx) _ _ _ (by omega) ⟨Nat.le_refl _,h⟩
 have hm:∀n i x,(upTo (missStep c now) n i x).events.length≤x.events.length+n:=by
  intro n
  induction n with
  |zero=>intro i x;exact Nat.le_refl _
  |succ n ih=>
   intro i x
   have h1:=ih (i+1) (missStep c now i x)
   have h2:(missStep c now i x).events.length≤x.events.length+1:=by unfold missStep;split<;>simp
   show (upTo (missStep c now) n (i+1) (missStep c now i x)).events.length≤_
   omega
 have h3:=hm (relAll c dom now d).jobs.length 0 (relAll c dom now d)
 have h4:=ha.1
 have h5:=ha.2
 show (upTo (missStep c now) (relAll c dom now d).jobs.length 0 (relAll c dom now d)).events.length≤_
 omega
theorem best_lt {c:TCfg}{js:List TJob}(h:¬ bestOf c js < 0):(bestOf c js).toNat < js.length:=by
 have:=(best_late (c:=c) (js:=js)).2.1
 omega
theorem DomOkW.tell {c:TCfg}{dom:Int}{d:TDom}(h:DomOkW c dom d)(t k a b:Int):DomOkW c dom (tellOf d t k a b):=⟨h.isD,h.lrel,h.lin,h.lout,h.ltak,h.rel,h.next,h.tak,h.njobs,h.job,h.ring⟩
theorem DomOkW.setJob {c:TCfg}{dom:Int}{d:TDom}(h:DomOkW c dom d){i:Nat}{j:TJob}(hj:JobOk c dom j):DomOkW c dom {d with jobs:=d.jobs.set i j} :=
 ⟨h.isD,h.lrel,h.lin,h.lout,h.ltak,h.rel,h.next,h.tak,by simpa using h.njobs,fun k hk=>by
  simp only [List.length_set] at hk
  show JobOk c dom (nth (d.jobs.set i j) k)
  rw [nth_set hk]
  split
  ·exact hj
  ·exact h.job k hk,h.ring⟩
structure DomOkI (c:TCfg) (dom:Int) (i:Nat) (d:TDom):Prop where
 lt:i < d.jobs.length
 isD:0≤dom∧dom < c.doms
 lrel:d.released.length=c.tasks.length
 lin:d.ins.length=c.chans.length
 lout:d.outs.length=c.chans.length
 ltak:d.taken.length=c.owners.length
 rel:∀i,i < d.released.length→0≤nth d.released i∧nth d.released i≤100000
 next:0≤d.next∧d.next≤100000
 tak:∀i,i < d.taken.length→0≤nth d.taken i∧nth d.taken i≤15
 njobs:d.jobs.length≤20
 job:∀k,k < d.jobs.length→k≠i→JobOk c dom (nth d.jobs k)
 jobi:JobOk c dom {nth d.jobs i with used:=0} ∧0≤(nth d.jobs i).used∧(nth d.jobs i).used≤6000
 ring:∀i,i < d.ins.length→checkRing (nth d.ins i).vals (nth d.ins i).lost (nth c.chans i).size=0
theorem startJ_ok {c:TCfg}{dom now:Int}{i:Nat}{d:TDom}(h:DomOkW c dom d)(hi:i < d.jobs.length):DomOkW c dom (startJ now i d)∧(startJ now i d).jobs.length=d.jobs.length:=by
 unfold startJ
 split
 ·exact ⟨h,rfl⟩
 ·have hj:=h.job i hi
  exact ⟨(h.setJob (i:=i) (j:= {nth d.jobs i with ran:=true}) ⟨hj.task,hj.dom,hj.number,hj.released,hj.used⟩).tell _ _ _ _,by simp [tellOf]⟩
theorem budget_le {c:TCfg}{dom:Int}{j:TJob}(hc:CfgOk c)(h:JobOk c dom j):1≤(taskOf c j.task).budget∧(taskOf c j.task).budget≤5000:=by
 have:=hc.task j.task.toNat (by have:=h.task;omega)
 unfold taskOf
 omega
theorem usedJ_ok {c:TCfg}{dom cost:Int}{i:Nat}{d:TDom}(hc:CfgOk c)(h:DomOkW c dom d)(hi:i < d.jobs.length)(hn:d.next < 100000)(hcost:0≤cost∧cost≤200):DomOkI c dom i (usedJ cost i d):=by
 have hj:=h.job i hi
 have hb:=budget_le hc hj
 have hu:=hj.used
 refine ⟨by simpa [usedJ] using hi,h.isD,h.lrel,h.lin,h.lout,h.ltak,h.rel,?_,h.tak,by simpa [usedJ] using h.njobs,fun k hk hne=>?_,?_,h.ring⟩
 ·have:=h.next;show 0≤d.next+1∧d.next+1≤100000;omega
 ·simp only [usedJ,List.length_set] at hk
  show JobOk c dom (nth (d.jobs.set i _) k)
  rw [nth_set_ne (Ne.symm hne)]
  exact h.job k hk
 ·show JobOk c dom {nth (d.jobs.set i _) i with used:=0} ∧0≤(nth (d.jobs.set i _) i).used∧(nth (d.jobs.set i _) i).used≤6000
  rw [nth_set_self hi]
  refine ⟨⟨hj.task,hj.dom,hj.number,hj.released,?_⟩,?_,?_⟩
  ·exact ⟨Int.le_refl _,by show 0 < (taskOf c (nth d.jobs i).task).budget;omega⟩
  ·show 0≤(nth d.jobs i).used+cost;omega
  ·show (nth d.jobs i).used+cost≤6000;omega
theorem DomOkI.turn {c:TCfg}{dom:Int}{i:Nat}{d d':TDom}(h:DomOkI c dom i d)(e1:d'.jobs=d.jobs)(e2:d'.released=d.released)(e3:d'.next=d.next)(l1:d'.ins.length=d.ins.length)(l2:d'.outs.length=d.outs.length)(l3:d'.taken.length=d.taken.length)
  (ht:∀i,i < d'.taken.length→0≤nth d'.taken i∧nth d'.taken i≤15) (hr:∀i,i < d'.ins.length→checkRing (nth d'.ins i).vals (nth d'.ins i).lost (nth c.chans i).size=0):DomOkI c dom i d':=
 ⟨by rw [e1];exact h.lt,h.isD,by rw [e2];exact h.lrel,l1.trans h.lin,l2.trans h.lout,l3.trans h.ltak,by rw [e2];exact h.rel,by rw [e3];exact h.next,ht,by rw [e1];exact h.njobs,by rw [e1];exact h.job,by rw [e1];exact h.jobi,hr⟩
theorem areValues_true {vs:List Int} :areValues vs=true↔∀j,j < vs.length→0≤nth vs j∧nth vs j≤255:=by
 unfold areValues
 rw [Bool.not_eq_true',anyI_false]
 unfold badValue
 constructor
 ·intro h j hj;have:=h j hj;rw [Bool.not_eq_false',inB_true] at this;exact this
 ·intro h j hj;rw [Bool.not_eq_false',inB_true];exact h j hj
theorem checkRing_zero {vs:List Int}{lost size:Int} :checkRing vs lost size=0↔(1≤size∧size≤4)∧(vs.length:Int)≤size∧areValues vs=true∧0≤lost∧lost≤100000:=by
 unfold checkRing
 rw [ite_zero (by omega),ite_zero (by omega),ite_zero (by omega)]
 simp only [Bool.or_eq_true,Bool.not_eq_true',not_or,Bool.not_eq_false,inB_true,and_true]
 constructor
 ·rintro ⟨h1,h2,h3,h4⟩;exact ⟨h1,by omega,h3,h4⟩
 ·rintro ⟨h1,h2,h3,h4⟩;exact ⟨h1,by omega,h3,h4⟩
theorem nth_drop {T:Type}[Inhabited T](xs:List T)(n j:Nat):nth (xs.drop n) j=nth xs (n+j):=by unfold nth;rw [List.getD_eq_getElem?_getD,List.getElem?_drop,List.getD_eq_getElem?_getD]
theorem takeR_ok {r:TRing}{size:Int}(h:checkRing r.vals r.lost size=0):checkRing (takeR r).vals (takeR r).lost size=0:=by
 rw [checkRing_zero] at h⊢
 obtain ⟨h1,h2,h3,h4⟩:=h
 refine ⟨h1,by simp only [takeR,restOf,List.length_tail];omega,?_,h4⟩
 rw [areValues_true] at h3⊢
 intro j hj
 simp only [takeR,restOf,List.length_tail] at hj⊢
 rw [show r.vals.tail=r.vals.drop 1 by simp,nth_drop]
 exact h3 _ (by omega)
theorem midJ_ok {c:TCfg}{dom now cost:Int}{a:TAct}{i:Nat}{d:TDom}(h:DomOkI c dom i d):DomOkI c dom i (midJ c dom now a cost d):=by
 have ht:∀t k x y,DomOkI c dom i (tellOf d t k x y):=fun t k x y=>h.turn rfl rfl rfl rfl rfl rfl h.tak h.ring
 unfold midJ
 split
 ·exact ht _ _ _ _
 ·unfold happenA
  repeat' split
  ·exact ht _ _ _ _
  ·exact h.turn rfl rfl rfl rfl (by simp [tellOf]) rfl h.tak h.ring
  ·refine h.turn rfl rfl rfl (by simp [tellOf]) rfl rfl h.tak fun k hk=>?_
   simp only [tellOf,List.length_set] at hk⊢
   by_cases e:a.n.toNat=k
   ·subst e;rw [nth_set_self hk];exact takeR_ok (h.ring _ hk)
   ·rw [nth_set_ne e];exact h.ring k hk
  ·exact ht _ _ _ _
  ·refine h.turn rfl rfl rfl rfl rfl (by simp [tellOf]) (fun k hk=>?_) h.ring
   simp only [tellOf,List.length_set] at hk⊢
   by_cases e:a.n.toNat=k
   ·subst e;rw [nth_set_self hk];omega
   ·rw [nth_set_ne e];exact h.tak k hk
  ·exact h
theorem nth_eraseIdx {T:Type}[Inhabited T](xs:List T)(i k:Nat):nth (xs.eraseIdx i) k=if k < i then nth xs k else nth xs (k+1):=by
 unfold nth
 rw [List.getD_eq_getElem?_getD,List.getElem?_eraseIdx]
 split<;>rw [List.getD_eq_getElem?_getD]
theorem endJ_ok {c:TCfg}{dom now:Int}{a:TAct}{i:Nat}{d:TDom}(h:DomOkI c dom i d):DomOkW c dom (endJ c now a i d):=by
 unfold endJ
 split
 ·refine ⟨h.isD,h.lrel,h.lin,h.lout,h.ltak,h.rel,h.next,h.tak,?_,fun k hk=>?_,h.ring⟩
  ·show (d.jobs.eraseIdx i).length≤20
   rw [List.length_eraseIdx_of_lt h.lt];have:=h.njobs;omega
  ·replace hk:k < (d.jobs.eraseIdx i).length:=hk
   rw [List.length_eraseIdx_of_lt h.lt] at hk
   show JobOk c dom (nth (d.jobs.eraseIdx i) k)
   rw [nth_eraseIdx]
   split
   ·exact h.job k (by omega) (by omega)
   ·exact h.job (k+1) (by omega) (by omega)
 ·rename_i ho
  refine ⟨h.isD,h.lrel,h.lin,h.lout,h.ltak,h.rel,h.next,h.tak,h.njobs,fun k hk=>?_,h.ring⟩
  by_cases e:k=i
  ·subst e
   have hj:=h.jobi
   unfold overA at ho
   split at ho
   ·omega
   ·split at ho
    ·omega
    ·rename_i h1 h2
     exact ⟨hj.1.task,hj.1.dom,hj.1.number,hj.1.released,⟨hj.2.1,by omega⟩⟩
  ·exact h.job k hk e
theorem doA_ok {c:TCfg}{dom now cost:Int}{a:TAct}{i:Nat}{d:TDom}(hc:CfgOk c)(h:DomOkW c dom d)(hi:i < d.jobs.length)(hn:d.next < 100000)(hcost:0≤cost∧cost≤200):DomOkW c dom (doA c dom now i a cost d):=by
 have h1:=startJ_ok (now:=now) h hi
 have h2:(startJ now i d).next=d.next:=by unfold startJ;split<;>rfl
 exact endJ_ok (midJ_ok (usedJ_ok hc h1.1 (by rw [h1.2];exact hi) (by rw [h2];exact hn) hcost))
theorem spend_bd {k:List (List TWay)}{a:TAct}(ha:ActOk a):1≤spendN k a∧spendN k a≤worstA a∧worstA a≤200:=by
 have h1:=worstA_bd ha
 unfold spendN
 split
 ·rename_i hm
  have:=touchCost_bd (nth k (setOf k a.n)) a.n
  have hw:worstA a=15:=by
   unfold worstA
   simp only [isMem,Bool.or_eq_true,decide_eq_true_eq] at hm
   rw [if_neg (by omega),if_pos hm]
  unfold accessCost
  omega
 ·omega
theorem spendK_ok {k:List (List TWay)}{a:TAct}(hk:CacheOk k)(ha:ActOk a):CacheOk (spendK k a):=by
 unfold spendK
 split
 ·rename_i hm
  simp only [isMem,Bool.or_eq_true,decide_eq_true_eq] at hm
  have:=ha.line hm
  exact access_ok _ hk this.1 this.2
 ·exact hk
structure WinIn (c:TCfg) (dom:Int) (to_:Int) (s:Win):Prop where
 now:0≤s.now∧s.now≤to_
 ok:DomOkW c dom s.d
 cache:CacheOk s.k
theorem winStep_ok {c:TCfg}{dom to_:Int}{l:List TAct}{s:Win}(hc:CfgOk c)(hl:l.length≤60)(ha:∀i,i < l.length→ActOk (nth l i))(ht:to_≤100000)(h:WinIn c dom to_ s)(hlt:s.now < to_):
  WinIn c dom to_ (winStep c dom l to_ s)∧s.now < (winStep c dom l to_ s).now:=by
 have hr:=release_okW (dom:=dom) hc (show s.now≤100000 by omega) h.ok
 have h0:=h.now
 unfold winStep
 dsimp only
 split
 ·rename_i hb
  have hd:=due_later (dom:=dom) hc h.ok (show s.now < 100000 by omega)
  have:s.now < idleTo to_ (dueOf c dom (releaseOf c dom s.now s.d))∧idleTo to_ (dueOf c dom (releaseOf c dom s.now s.d))≤to_:=by
   unfold idleTo
   split
   ·rename_i h1;have:=hd h1.1;omega
   ·omega
  exact ⟨⟨⟨by dsimp only;omega,this.2⟩,hr,h.cache⟩,this.1⟩
 ·split
  ·exact ⟨⟨⟨by dsimp only;omega,Int.le_refl _⟩,hr,h.cache⟩,hlt⟩
  ·rename_i hb hn
   have hn1:=hr.next
   have hx:(releaseOf c dom s.now s.d).next.toNat < l.length:=by omega
   have hA:=ha _ hx
   have hsp:=spend_bd (k:=s.k) hA
   refine ⟨⟨⟨by dsimp only;omega,by dsimp only;omega⟩,doA_ok hc hr (best_lt hb) (by omega) (by omega),spendK_ok h.cache hA⟩,by dsimp only;omega⟩
end
section
set_option maxRecDepth 100000
set_option maxHeartbeats 400000
def newCErr (sets ways:Int):Int:=if !inB 1 sets 4|| !inB 1 ways 3 then 3 else 0
def newCOf (sets ways:Int):List (List TWay):=if newCErr sets ways=0 then emptyCache sets.toNat ways.toNat else []
def RetCacheE (c:List (List TWay)) (e:Int) (w:World) (en:Ending) (w':World):Prop:=∃A n,en= .returned (.tuple #[.agg #[.slice A c.length n],.int .i64 e])∧OCache (Rng w.heap.size w'.heap.size) w' (.slice A c.length n) c∧Below w.heap.size w w'
def RetCacheI (c:List (List TWay)) (v:Int) (w:World) (en:Ending) (w':World):Prop:=∃A n,en= .returned (.tuple #[.agg #[.slice A c.length n],.int .i64 v])∧OCache (Rng w.heap.size w'.heap.size) w' (.slice A c.length n) c∧Below w.heap.size w w'
def RetCacheIE (c:List (List TWay)) (v e:Int) (w:World) (en:Ending) (w':World):Prop:=∃A n,en= .returned (.tuple #[.agg #[.slice A c.length n],.int .i64 v,.int .i64 e])∧OCache (Rng w.heap.size w'.heap.size) w' (.slice A c.length n) c∧Below w.heap.size w w'
theorem ocache_nil (F:Nat→Prop)(w:World):OCache F w (.slice none 0 0) []:=OSl.nil _ _ _ _
theorem cacheNew (sets ways:Int)(w:World):Calls Try.prog 68 #[.int .i64 sets,.int .i64 ways] w (RetCacheE (newCOf sets ways) (newCErr sets ways) w):=by
 by_cases h1:inB 1 sets 4=true
 ·by_cases h2:inB 1 ways 3=true
  ·obtain ⟨a1,a2⟩:=inB_true.1 h1
   obtain ⟨b1,b2⟩:=inB_true.1 h2
   have E:newCErr sets ways=0:=by simp [newCErr,h1,h2]
   have E2:newCOf sets ways=emptyCache sets.toNat ways.toNat:=by simp [newCOf,E]
   rw [E,E2]
   obtain ⟨m,rfl⟩:=Int.eq_ofNat_of_zero_le (show 0≤sets by omega)
   obtain ⟨k,rfl⟩:=Int.eq_ofNat_of_zero_le (show 0≤ways by omega)
   simp only [Int.toNat_natCast]
   have H:=zH (fun W=>cacheEmpty m k W (by omega) (by omega))
   have HL:=zH (show (emptyCache m k).length=m by simp [emptyCache])
   generalize emptyCache m k=c at*
   clear E E2
   go_enter Try.func68,Try.ntmps68
   go_wp2_with (first|(go_at_call 106;refine (cacheWithin _ _ _ _).mono ?_;rintro e w' ⟨rfl,rfl⟩)|(go_at_call 114;refine (H.out _).mono ?_;rintro e w1 ⟨A1,c1,rfl,hO,hb1⟩;have B1:Below w.heap.size w w1:=byB;obtain ⟨hcw,hfw⟩:=bcell hb1))
   have s1:=hb1.size
   refine bodyPost_ret (v:= .tuple #[.agg #[.slice A1 c.length c1],.int .i64 0]) (by simp [results,Try.results68,go_sem, *]) rfl ?_
   refine ⟨A1,c1,rfl,OSl.mono (OSl.keepI hO byI) ?_,byB⟩
   ·intro b hb;simp only [Rng] at hb⊢;simp at hb⊢;omega
  ·have h2:inB 1 ways 3=false:=by simpa using h2
   have E:newCErr sets ways=3:=by simp [newCErr,h1,h2]
   have E2:newCOf sets ways=[]:=by simp [newCOf,E]
   rw [E,E2]
   clear E E2
   go_enter Try.func68,Try.ntmps68
   go_wp2_with (go_at_call 106;refine (cacheWithin _ _ _ _).mono ?_;rintro e w' ⟨rfl,rfl⟩)
   exact bodyPost_ret (v:= .tuple #[.agg #[.slice none 0 0],.int .i64 3]) (by simp [results,Try.results68,go_sem, *]) rfl ⟨none,0,rfl,ocache_nil _ _,byB⟩
 ·have h1:inB 1 sets 4=false:=by simpa using h1
  have E:newCErr sets ways=3:=by simp [newCErr,h1]
  have E2:newCOf sets ways=[]:=by simp [newCOf,E]
  rw [E,E2]
  clear E E2
  go_enter Try.func68,Try.ntmps68
  go_wp2_with (go_at_call 106;refine (cacheWithin _ _ _ _).mono ?_;rintro e w' ⟨rfl,rfl⟩)
  exact bodyPost_ret (v:= .tuple #[.agg #[.slice none 0 0],.int .i64 3]) (by simp [results,Try.results68,go_sem, *]) rfl ⟨none,0,rfl,ocache_nil _ _,byB⟩
end
end Go.Proofs.Ytinlmkhlgclbfab
