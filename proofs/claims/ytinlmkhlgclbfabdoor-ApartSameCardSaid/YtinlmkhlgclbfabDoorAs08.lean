/- WinL to OwnD -/
import Derived.Test.YtinlmkhlgclbfabDoorAs07
namespace Go.Proofs.YtinlmkhlgclbfabDoor
open Go.RowKit
section
theorem startJ_grow (now:Int)(i:Nat)(d:TDom):(startJ now i d).events.length≤d.events.length+1∧(startJ now i d).outs=d.outs:=by
 unfold startJ
 split
 ·exact ⟨by omega,rfl⟩
 ·exact ⟨by simp [tellOf],rfl⟩
theorem midJ_grow (c:TCfg)(dom now:Int)(a:TAct)(cost:Int)(d:TDom):(midJ c dom now a cost d).events.length≤d.events.length+1∧(midJ c dom now a cost d).outs.length=d.outs.length∧∀j,(nth (midJ c dom now a cost d).outs j).length≤(nth d.outs j).length+1:=by
 unfold midJ
 split
 ·exact ⟨by simp [tellOf],rfl,fun j=>Nat.le_succ _⟩
 ·unfold happenA
  repeat' split
  ·exact ⟨by simp [tellOf],rfl,fun j=>Nat.le_succ _⟩
  ·refine ⟨by simp [tellOf],by simp [tellOf],fun j=>?_⟩
   simp only [tellOf]
   by_cases hj:a.n.toNat < d.outs.length
   ·by_cases e:a.n.toNat=j
    ·subst e;rw [nth_set_self hj];simp
    ·rw [nth_set_ne e];exact Nat.le_succ _
   ·rw [List.set_eq_of_length_le (by omega)];exact Nat.le_succ _
  ·exact ⟨by simp [tellOf],rfl,fun j=>Nat.le_succ _⟩
  ·exact ⟨by simp [tellOf],rfl,fun j=>Nat.le_succ _⟩
  ·exact ⟨by simp [tellOf],rfl,fun j=>Nat.le_succ _⟩
  ·exact ⟨Nat.le_succ _,rfl,fun j=>Nat.le_succ _⟩
theorem endJ_grow (c:TCfg)(now:Int)(a:TAct)(i:Nat)(d:TDom):(endJ c now a i d).events.length≤d.events.length+1∧(endJ c now a i d).outs=d.outs:=by
 unfold endJ
 split
 ·exact ⟨by simp [tellOf],rfl⟩
 ·exact ⟨by omega,rfl⟩
theorem doA_grow (c:TCfg)(dom now:Int)(i:Nat)(a:TAct)(cost:Int)(d:TDom):(doA c dom now i a cost d).events.length≤d.events.length+3∧(doA c dom now i a cost d).outs.length=d.outs.length∧∀j,(nth (doA c dom now i a cost d).outs j).length≤(nth d.outs j).length+1:=by
 have h1:=startJ_grow now i d
 have h2:=midJ_grow c dom (now+cost) a cost (usedJ cost i (startJ now i d))
 have h3:=endJ_grow c (now+cost) a i (midJ c dom (now+cost) a cost (usedJ cost i (startJ now i d)))
 have e1:(usedJ cost i (startJ now i d)).events=(startJ now i d).events:=rfl
 have e2:(usedJ cost i (startJ now i d)).outs=(startJ now i d).outs:=rfl
 rw [e1,e2,h1.2] at h2
 have e3:doA c dom now i a cost d=endJ c (now+cost) a i (midJ c dom (now+cost) a cost (usedJ cost i (startJ now i d))):=rfl
 rw [e3,h3.2]
 exact ⟨by omega,h2.2.1,h2.2.2⟩
theorem winStep_grow {c:TCfg}{dom to_:Int}{l:List TAct}{s:Win}(hj:s.d.jobs.length≤20):(winStep c dom l to_ s).d.events.length≤s.d.events.length+44∧(winStep c dom l to_ s).d.outs.length=s.d.outs.length∧∀j,(nth (winStep c dom l to_ s).d.outs j).length≤(nth s.d.outs j).length+1:=by
 have h1:=release_grow c dom s.now s.d hj
 have h2:=release_outs c dom s.now s.d
 unfold winStep
 dsimp only
 split
 ·exact ⟨by dsimp only;omega,by dsimp only;rw [h2],fun j=>by dsimp only;rw [h2];exact Nat.le_succ _⟩
 ·split
  ·exact ⟨by dsimp only;omega,by dsimp only;rw [h2],fun j=>by dsimp only;rw [h2];exact Nat.le_succ _⟩
  ·dsimp only
   have h3:=doA_grow c dom s.now (bestOf c (releaseOf c dom s.now s.d).jobs).toNat (nth l (releaseOf c dom s.now s.d).next.toNat) (spendN s.k (nth l (releaseOf c dom s.now s.d).next.toNat)) (releaseOf c dom s.now s.d)
   rw [h2] at h3
   exact ⟨by omega,h3.2.1,h3.2.2⟩
structure Mach where
 ds:List TDom
 last:List Int
 most:Int
def cache0 (c:TCfg):List (List TWay):=emptyCache c.sets.toNat c.ways.toNat
def slotTo (c:TCfg) (s start:Int):Int:=start+(nth c.slots s.toNat).len - c.pad
def slotIn (c:TCfg) (sc:TScr) (s start:Int) (m:Mach):TDom:=openOf c sc.arrivals s (nth m.ds (slotDom c s).toNat) (nth m.last (slotDom c s).toNat) start
def slotActs (c:TCfg) (sc:TScr) (s:Int):List TAct:=nth sc.actions (slotDom c s).toNat
def slotWinD (c:TCfg) (sc:TScr) (s start:Int) (m:Mach):TDom:=windowD c (slotDom c s) (slotIn c sc s start m) (cache0 c) (slotActs c sc s) start (slotTo c s start)
def slotWinK (c:TCfg) (sc:TScr) (s start:Int) (m:Mach):List (List TWay):=windowK c (slotDom c s) (slotIn c sc s start m) (cache0 c) (slotActs c sc s) start (slotTo c s start)
def slotOut (c:TCfg) (sc:TScr) (s start:Int) (m:Mach):TDom:=tellOf (slotWinD c sc s start m) (slotTo c s start) 13 0 0
def slotAll (c:TCfg) (sc:TScr) (s start:Int) (m:Mach):Mach:=
 ⟨closeOf c s (m.ds.set (slotDom c s).toNat (slotOut c sc s start m)),m.last.set (slotDom c s).toNat start,max m.most (flushOf (slotWinK c sc s start m))⟩
def slotNo (c:TCfg) (j:Nat):Nat:=j % c.slots.length
def slotAt (c:TCfg) (j:Nat):Int:=startOf c ((j / c.slots.length:Nat):Int) (slotNo c j)
def machStep (c:TCfg) (sc:TScr) (j:Nat) (m:Mach):Mach:=slotAll c sc (slotNo c j) (slotAt c j) m
def mach0 (c:TCfg):Mach:=⟨List.replicate c.doms.toNat (freshOf c),List.replicate c.doms.toNat 0,0⟩
def machUp (c:TCfg) (sc:TScr) (n:Nat):Mach:=upTo (machStep c sc) n 0 (mach0 c)
def slotsIn (c:TCfg) (sc:TScr):Nat:=sc.rounds.toNat*c.slots.length
def machOf (c:TCfg) (sc:TScr):Mach:=machUp c sc (slotsIn c sc)
theorem machUp_succ (c:TCfg)(sc:TScr)(n:Nat):machUp c sc (n+1)=machStep c sc n (machUp c sc n):=by unfold machUp;rw [upTo_last,Nat.zero_add]
def checkScript (c:TCfg) (sc:TScr):Int:=
 if checkConfig c≠0 then checkConfig c
 else if (sc.actions.length:Int)≠c.doms then 1
 else if !inB 0 sc.rounds 8 then 3
 else thenE (checkArrivals c sc.arrivals) (firstE sc.actions.length fun i=>actsErr (nth sc.actions i))
structure ScrOk (c:TCfg) (sc:TScr):Prop where
 cfg:CfgOk c
 len:(sc.actions.length:Int)=c.doms
 rounds:0≤sc.rounds∧sc.rounds≤8
 arrs:sc.arrivals.length≤40∧∀i,i < sc.arrivals.length→0≤(nth sc.arrivals i).t∧(nth sc.arrivals i).t≤100000∧0≤(nth sc.arrivals i).line∧(nth sc.arrivals i).line < c.owners.length
 acts:∀i,i < sc.actions.length→(nth sc.actions i).length≤60∧∀k,k < (nth sc.actions i).length→ActOk (nth (nth sc.actions i) k)
theorem actsErr_zero {l:List TAct} :actsErr l=0↔l.length≤60∧∀k,k < l.length→ActOk (nth l k):=by
 unfold actsErr
 rw [ite_zero (by omega),firstE_zero_iff]
 simp only [actErr_zero]
 constructor
 ·rintro ⟨h1,h2⟩;exact ⟨by omega,h2⟩
 ·rintro ⟨h1,h2⟩;exact ⟨by omega,h2⟩
theorem checkScript_ok {c:TCfg}{sc:TScr}(h:checkScript c sc=0):ScrOk c sc:=by
 unfold checkScript at h
 split at h
 ·rename_i h1;exact absurd h h1
 ·rename_i h1
  rw [ite_zero (by omega),ite_zero (by omega),thenE_zero,firstE_zero_iff] at h
  obtain ⟨h2,h3,h4,h5⟩:=h
  refine ⟨checkConfig_ok (by simpa using h1),by simpa using h2,inB_true.1 (by simpa using h3),checkArrivals_ok h4,fun i hi=>actsErr_zero.1 (h5 i hi)⟩
theorem openStep_ok {c:TCfg}{dom:Int}{ns:List Int}(hn:∀i,0≤nth ns i){i:Nat}{d:TDom}(h:DomOkW c dom d):DomOkW c dom (openStep ns i d):=
 ⟨h.isD,h.lrel,h.lin,h.lout,by simpa [openStep] using h.ltak,h.rel,h.next,fun k hk=>by
  simp only [openStep,List.length_set] at hk⊢
  by_cases e:i=k
  ·subst e
   rw [nth_set_self hk]
   have h1:=h.tak i hk
   have h2:=hn i
   omega
  ·rw [nth_set_ne e];exact h.tak k hk,h.njobs,h.job,h.ring⟩
theorem cameOf_nonneg (owners:List Int)(dom t0 t1:Int)(l:List TArr)(i:Nat):0≤nth (cameOf owners dom t0 t1 l) i:=by
 by_cases h:i < owners.length
 ·rw [nth_cameOf h];omega
 ·unfold nth
  rw [List.getD_eq_getElem?_getD,List.getElem?_eq_none (by rw [cameOf_length];omega)]
  exact Int.le_refl _
theorem openTaken_ok {c:TCfg}{dom:Int}{ns:List Int}(hn:∀i,0≤nth ns i){d:TDom}(h:DomOkW c dom d):DomOkW c dom (openTaken ns d):=
 upTo_keeps (N:=ns.length) (fun _ _ _ h=>openStep_ok hn h) _ _ _ (by omega) h
theorem openOf_okW {c:TCfg}{dom:Int}{l:List TArr}{s t0 t1:Int}{d:TDom}(h:DomOkW c dom d):DomOkW c dom (openOf c l s d t0 t1):=
 (openTaken_ok (ns:=cameOf c.owners (slotDom c s) t0 t1 l) (cameOf_nonneg _ _ _ _ _) h).tell _ _ _ _
theorem openOf_outs (c:TCfg)(l:List TArr)(s:Int)(d:TDom)(t0 t1:Int):(openOf c l s d t0 t1).outs=d.outs:=by
 obtain ⟨tk,-,e⟩:=openTaken_eq (cameOf c.owners (slotDom c s) t0 t1 l) d (cameOf c.owners (slotDom c s) t0 t1 l).length 0
 unfold openOf openTaken;simp only [e]
theorem openOf_events (c:TCfg)(l:List TArr)(s:Int)(d:TDom)(t0 t1:Int):(openOf c l s d t0 t1).events=d.events++[⟨t1,1,s,0⟩]:=by
 obtain ⟨tk,-,e⟩:=openTaken_eq (cameOf c.owners (slotDom c s) t0 t1 l) d (cameOf c.owners (slotDom c s) t0 t1 l).length 0
 unfold openOf openTaken;simp only [e]
structure OutOk (c:TCfg) (dom:Int) (N:Nat) (d:TDom):Prop where
 mine:∀j,j < d.outs.length→(nth c.chans j).src≠dom→nth d.outs j=[]
 vals:∀j,j < d.outs.length→areValues (nth d.outs j)=true
 most:∀j,j < d.outs.length→(nth d.outs j).length≤N
theorem OutOk.same {c:TCfg}{dom:Int}{N:Nat}{d d':TDom}(h:OutOk c dom N d)(e:d'.outs=d.outs):OutOk c dom N d':=⟨by rw [e];exact h.mine,by rw [e];exact h.vals,by rw [e];exact h.most⟩
theorem OutOk.more {c:TCfg}{dom:Int}{N M:Nat}{d:TDom}(h:OutOk c dom N d)(e:N≤M):OutOk c dom M d:=⟨h.mine,h.vals,fun j hj=>Nat.le_trans (h.most j hj) e⟩
theorem areValues_snoc {vs:List Int}{v:Int}(h:areValues vs=true)(hv:0≤v∧v≤255):areValues (vs++[v])=true:=by
 rw [areValues_true] at h⊢
 intro j hj
 simp only [List.length_append,List.length_singleton] at hj
 by_cases e:j < vs.length
 ·rw [nth_append_left e];exact h j e
 ·obtain rfl:j=vs.length:=by omega
  rw [nth_append_last];exact hv
theorem midJ_out {c:TCfg}{dom now cost:Int}{a:TAct}{d:TDom}{N:Nat}(ha:ActOk a)(h:OutOk c dom N d):OutOk c dom (N+1) (midJ c dom now a cost d):=by
 unfold midJ
 split
 ·exact (h.more (Nat.le_succ _)).same rfl
 ·rename_i hr
  unfold happenA
  split
  ·exact (h.more (Nat.le_succ _)).same rfl
  ·split
   ·rename_i h4
    have hn:=ha.name (.inl h4)
    have hv:=ha.val h4
    unfold refusedA at hr
    rw [if_pos h4] at hr
    simp only [Bool.or_eq_true,decide_eq_true_eq,not_or,Decidable.not_not] at hr
    refine ⟨fun j hj hs=>?_,fun j hj=>?_,fun j hj=>?_⟩
    ·simp only [tellOf,List.length_set] at hj⊢
     have e:a.n.toNat≠j:=by rintro rfl;exact hs hr.2
     rw [nth_set_ne e];exact h.mine j hj hs
    ·simp only [tellOf,List.length_set] at hj⊢
     by_cases e:a.n.toNat=j
     ·subst e;rw [nth_set_self hj];exact areValues_snoc (h.vals _ hj) hv
     ·rw [nth_set_ne e];exact h.vals j hj
    ·simp only [tellOf,List.length_set] at hj⊢
     by_cases e:a.n.toNat=j
     ·subst e;rw [nth_set_self hj];have:=h.most _ hj;simp;omega
     ·rw [nth_set_ne e];have:=h.most j hj;omega
   ·(repeat' split)<;>exact (h.more (Nat.le_succ _)).same rfl
theorem doA_out {c:TCfg}{dom now cost:Int}{i:Nat}{a:TAct}{d:TDom}{N:Nat}(ha:ActOk a)(h:OutOk c dom N d):OutOk c dom (N+1) (doA c dom now i a cost d):=by
 have h1:OutOk c dom N (usedJ cost i (startJ now i d)):=h.same (show (startJ now i d).outs=_ from (startJ_grow now i d).2)
 have h2:=midJ_out (now:=now+cost) (cost:=cost) ha h1
 exact h2.same (endJ_grow c (now+cost) a i _).2
theorem winStep_out {c:TCfg}{dom to_:Int}{l:List TAct}{s:Win}{N:Nat}(ha:∀i,i < l.length→ActOk (nth l i))(hd:DomOkW c dom (releaseOf c dom s.now s.d))(h:OutOk c dom N s.d):OutOk c dom (N+1) (winStep c dom l to_ s).d:=by
 have h1:=h.same (release_outs c dom s.now s.d)
 unfold winStep
 dsimp only
 split
 ·exact h1.more (Nat.le_succ _)
 ·split
  ·exact h1.more (Nat.le_succ _)
  ·rename_i hn
   have hx:=hd.next
   exact doA_out (ha _ (by omega)) h1
def SameShape (k k':List (List TWay)):Prop:=k'.length=k.length∧(nth k' 0).length=(nth k 0).length
theorem SameShape.trans {a b d:List (List TWay)}(h:SameShape a b)(h':SameShape b d):SameShape a d:=⟨h'.1.trans h.1,h'.2.trans h.2⟩
structure WinEnd (c:TCfg) (dom:Int) (d:TDom) (k:List (List TWay)) (l:List TAct) (from_ to_:Int):Prop where
 ok:DomOkW c dom (windowD c dom d k l from_ to_)
 cache:CacheOk (windowK c dom d k l from_ to_)
 shape:SameShape k (windowK c dom d k l from_ to_)
 events:((windowD c dom d k l from_ to_).events.length:Int)≤d.events.length+44*(to_ - from_)+40
 outs:OutOk c dom (to_ - from_).toNat (windowD c dom d k l from_ to_)
theorem accessOf_shape {k:List (List TWay)}(line:Int)(b:Bool)(h:CacheOk k):SameShape k (accessOf k line b):=by
 unfold accessOf
 have hlt:=setOf_lt h.h1 line
 have e:(touchSet (nth k (setOf k line)) line b).length=(nth k (setOf k line)).length:=touchSet_length _ _ (by have:=h.same _ hlt;have:=h.w1;omega)
 refine ⟨by simp,?_⟩
 by_cases e0:setOf k line=0
 ·rw [e0,nth_set_self (by have:=h.h1;omega),← e0,e]
 ·rw [nth_set_ne e0]
theorem spendK_shape {k:List (List TWay)}(h:CacheOk k)(a:TAct):SameShape k (spendK k a):=by
 unfold spendK;split
 ·exact accessOf_shape _ _ h
 ·exact ⟨rfl,rfl⟩
theorem winStep_shape {c:TCfg}{dom to_:Int}{l:List TAct}{s:Win}(h:CacheOk s.k):SameShape s.k (winStep c dom l to_ s).k:=by
 unfold winStep
 dsimp only
 split
 ·exact ⟨rfl,rfl⟩
 ·split
  ·exact ⟨rfl,rfl⟩
  ·exact spendK_shape h _
theorem window_end {c:TCfg}{dom from_ to_:Int}{l:List TAct}{d:TDom}{k:List (List TWay)}(hc:CfgOk c)(hl:l.length≤60)(ha:∀i,i < l.length→ActOk (nth l i))(h0:0≤from_∧from_≤to_∧to_≤100000)(hd:DomOkW c dom d)(hk:CacheOk k)(ho:OutOk c dom 0 d):WinEnd c dom d k l from_ to_:=by
 have key:∀n s,(to_ - s.now).toNat≤n→WinIn c dom to_ s→SameShape k s.k→(s.d.events.length:Int)≤d.events.length+44*(s.now - from_)→from_≤s.now→OutOk c dom (s.now - from_).toNat s.d→
   WinIn c dom to_ (winLoop c dom l to_ n s)∧SameShape k (winLoop c dom l to_ n s).k∧((winLoop c dom l to_ n s).d.events.length:Int)≤d.events.length+44*(to_ - from_)∧OutOk c dom (to_ - from_).toNat (winLoop c dom l to_ n s).d:=by
  intro n
  induction n with
  |zero=>
   intro s hn h1 h2 h3 h4 h5
   exact ⟨h1,h2,by have:=h1.now;show (s.d.events.length:Int)≤_;omega,h5.more (by have:=h1.now;omega)⟩
  |succ n ih=>
   intro s hn h1 h2 h3 h4 h5
   unfold winLoop
   split
   ·rename_i hlt
    have k1:=winStep_ok hc hl ha h0.2.2 h1 hlt
    have k2:=winStep_grow (c:=c) (dom:=dom) (to_:=to_) (l:=l) h1.ok.njobs
    have k3:=winStep_out (to_:=to_) ha (release_okW (dom:=dom) hc (show s.now≤100000 by have:=h1.now;omega) h1.ok) h5
    refine ih _ (by have:=k1.2;omega) k1.1 (h2.trans (winStep_shape h1.cache)) (by have:=k2.1;have:=k1.2;omega) (by have:=k1.2;omega) (k3.more (by have:=k1.2;omega))
   ·exact ⟨h1,h2,by have:=h1.now;omega,h5.more (by have:=h1.now;omega)⟩
 obtain ⟨h1,h2,h3,h4⟩:=key (to_ - from_).toNat ⟨from_,d,k⟩ (Nat.le_refl _) ⟨⟨by dsimp only;omega,by dsimp only;omega⟩,hd,hk⟩ ⟨rfl,rfl⟩ (by dsimp only;omega) (Int.le_refl _) (by dsimp only;rw [show (from_ - from_).toNat=0 by omega];exact ho)
 refine ⟨release_okW hc h0.2.2 h1.ok,h1.cache,h2,?_,h4.same (release_outs _ _ _ _)⟩
 have:=release_grow c dom to_ (winOf c dom d k l from_ to_).d h1.ok.njobs
 unfold windowD
 have e:winOf c dom d k l from_ to_=winLoop c dom l to_ (to_ - from_).toNat ⟨from_,d,k⟩:=rfl
 rw [← e] at h3
 omega
end
section
set_option maxHeartbeats 1000000
theorem ownZ_live {w:World}{E:TypeId}{size:Nat}{g n c:Nat}{xs:List Value}(h:ownsZ w E size (.slice (some ⟨g,0,none⟩) n c) n xs)(hc:0 < c):∃cur,w.heap[g]?=some (.cells cur E (0,0)):=by
 rcases h with ⟨_,⟨hv,_⟩|⟨g',cap,cur,hv,_,hh,_⟩⟩|⟨_,_,a,hv⟩
 ·cases hv
 ·injection hv with e1 _ _
  injection e1 with e1;injection e1 with e1
  subst e1
  exact ⟨cur,hh⟩
 ·injection hv with _ _ e3;omega
theorem ozl_turn {T:Type}[Inhabited T]{e:OCod T}{E:TypeId}{F:Nat→Prop}{w:World}{v:Value}{xs:List T}(h:OZl e E F w v xs){i:Nat}(hi:i < xs.length):
  ∃g c es Gi,v= .slice (some ⟨g,0,none⟩) xs.length c∧F g∧g < w.heap.size∧e.rel Gi w es (nth xs i)∧CellsAt w g (i*e.cod.size) es∧(∀b,Gi b→F b∧b≠g)∧(∀o,w.frozen? ⟨g,o,none⟩=false)∧
   (∀w' x' (Gx F':Nat→Prop),e.rel Gx w' es x'→(∀b,F b→¬ Gi b→w'.heap[b]?=w.heap[b]?)→(∀b,F b→F' b)→(∀b,Gx b→F' b∧b≠g)→(∀b,Gx b→F b→Gi b)→OZl e E F' w' v (xs.set i x')):=by
 obtain ⟨ess,G,h1,h2,h3,h4,h5,h6⟩:=h
 have hlen:=ess_len h1 h4
 have hi':i < ess.length:=by omega
 obtain ⟨A',c',hv,hn,hm,hnil,_,hcase⟩:=ownZ_form h2
 rcases hcase with ⟨h0,_,_⟩|⟨g,rfl,hc0,hr,hg,hc,_⟩
 ·omega
 ·subst hv
  have hr':rowZ (.slice (some ⟨g,0,none⟩) xs.length c')=some g:=hr
  refine ⟨g,c',ess[i],G i,rfl,h3 g hr,hg,by rw [nth_eq hi];exact h4 i ess[i] xs[i] (List.getElem?_eq_getElem hi') (List.getElem?_eq_getElem hi),fun j u hu=>?_,fun b hb=>⟨(h5 i b hb).1,fun e1=>(h5 i b hb).2 (by rw [e1];exact hr)⟩,fun o=>?_,fun w' x' Gx F' hx' hk hF hGx hGF=>?_⟩
  ·have:=hc (i*e.cod.size+j) u (flatten_slot ess i ess[i] hlen (List.getElem?_eq_getElem hi') j u hu)
   rwa [show i*e.cod.size+j=0+(i*e.cod.size+j) by omega]
  ·obtain ⟨cur,hh⟩:=ownZ_live h2 hc0
   exact (blk hh).2.1 o
  ·have hGn:∀j b,j≠i→G j b→¬ G i b:=fun j b hj hb=>h6 j i b hj hb
   refine ⟨ess,fun j=>if j=i then Gx else G j,by simpa using h1,?_,fun b hb=>hF b (h3 b hb),fun j es x hj hx=>?_,fun j b hb=>?_,fun j k b hjk hj hk'=>?_⟩
   ·rw [List.length_set]
    exact ownZ_keep h2 fun b hb=>hk b (h3 b hb) fun hG=>(h5 i b hG).2 hb
   ·dsimp only
    by_cases e1:j=i
    ·subst e1
     rw [if_pos rfl]
     rw [List.getElem?_set_self hi] at hx
     rw [List.getElem?_eq_getElem hi'] at hj
     injection hx with hx;injection hj with hj
     subst hx;subst hj
     exact hx'
    ·rw [if_neg e1]
     rw [List.getElem?_set_ne (Ne.symm e1)] at hx
     exact e.keep (h4 j es x hj hx) fun b hb=>hk b (h5 j b hb).1 fun hG=>h6 j i b e1 hb hG
   ·dsimp only at hb
    by_cases e1:j=i
    ·rw [if_pos e1] at hb
     exact ⟨(hGx b hb).1,fun e2=>(hGx b hb).2 (by rw [hr'] at e2;injection e2 with e2;exact e2.symm)⟩
    ·rw [if_neg e1] at hb
     exact ⟨hF b (h5 j b hb).1,(h5 j b hb).2⟩
   ·dsimp only at hj hk'
    by_cases e1:j=i
    ·rw [if_pos e1] at hj
     rw [if_neg (by omega)] at hk'
     exact h6 k i b (by omega) hk' (hGF b hj (h5 k b hk').1)
    ·rw [if_neg e1] at hj
     by_cases e2:k=i
     ·rw [if_pos e2] at hk'
      exact h6 j i b e1 hj (hGF b hk' (h5 j b hj).1)
     ·rw [if_neg e2] at hk'
      exact h6 j k b hjk hj hk'
theorem DomO.ring {G:Nat→Nat→Prop}{w:World}{d:TDom}{T:TDomS}(h:DomO G w d T){i:Nat}(hi:i < d.ins.length):
  ∃g A c,T.a2=some ⟨g,0,none⟩∧G 2 g∧g < w.heap.size∧w.cell? ⟨g,i*2,none⟩=some (.slice A (nth d.ins i).vals.length c)∧w.cell? ⟨g,i*2+1,none⟩=some (.int .i64 (nth d.ins i).lost)∧(∀o,w.frozen? ⟨g,o,none⟩=false)∧Sl cInt (G 2) w A c (nth d.ins i).vals∧
   ∀(W:World) (A':Option Addr) (c':Nat) (r:TRing),(∀b,b < w.heap.size→W.heap[b]?=w.heap[b]?)→w.heap.size≤W.heap.size→ownsZ W 3 1 (.slice A' r.vals.length c') r.vals.length (r.vals.flatMap fun n=>[Value.int .i64 n])→
    (∀b,rowZ (.slice A' r.vals.length c')=some b→w.heap.size≤b∧b < W.heap.size)→
    DomO (addG G 2 w.heap.size W.heap.size) ((W.setCell ⟨g,i*2,none⟩ (.slice A' r.vals.length c')).setCell ⟨g,i*2+1,none⟩ (.int .i64 r.lost)) {d with ins:=d.ins.set i r} T:=by
 obtain ⟨g,c0,es,Gi,hv,hFg,hg,hrel,hcs,hGi,all,hown,hlt,hput⟩:=ozl_put h.o2 hi
 injection hv with ea _ en
 obtain ⟨vv,rfl,hsl⟩:=hrel
 obtain ⟨A,c,rfl⟩:=hsl.form
 have hc0:0 < T.n2:=by
  obtain ⟨_,_,hv',hn',_⟩:=ownZ_form h.o2.choose_spec.choose_spec.2.1
  injection hv' with _ _ e3
  omega
 have hown':=hown
 rw [ea] at hown'
 obtain ⟨cur,hh⟩:=ownZ_live hown' hc0
 refine ⟨g,A,c,ea,hFg,hg,hcs 0 _ rfl,hcs 1 _ rfl,fun o=>(blk hh).2.1 o,hsl.read.mono fun b hb=>(hGi b hb).1,fun W A' c' r hk hs hr hrow=>?_⟩
 have hGlt:∀b,Gi b→b < w.heap.size:=fun b hb=>h.lt 2 b (hGi b hb).1
 have hkw:∀b,b < w.heap.size→b≠g→((W.setCell ⟨g,i*2,none⟩ (.slice A' r.vals.length c')).setCell ⟨g,i*2+1,none⟩ (.int .i64 r.lost)).heap[b]?=w.heap[b]?:=fun b hb hne=>
  (Below.heap_setCell _ _ _ _ hne).trans ((Below.heap_setCell _ _ _ _ hne).trans (hk b hb))
 have hkk:∀k b,k≠2→G k b→((W.setCell ⟨g,i*2,none⟩ (.slice A' r.vals.length c')).setCell ⟨g,i*2+1,none⟩ (.int .i64 r.lost)).heap[b]?=w.heap[b]?:=fun k b hne hb=>
  hkw b (h.lt k b hb) (fun e=>h.dis k 2 b hne hb (by rw [e];exact hFg))
 refine ⟨(h.o0.keep (hkk 0 · (by omega))).mono fun b hb=> .inl hb,(h.o1.keep (hkk 1 · (by omega))).mono fun b hb=> .inl hb,?_,(h.o3.keep (hkk 3 · (by omega))).mono fun b hb=> .inl hb,(h.o4.keep (hkk 4 · (by omega))).mono fun b hb=> .inl hb,(h.o5.keep (hkk 5 · (by omega))).mono fun b hb=> .inl hb,addG_dis h.dis h.lt,fun k b hb=>?_⟩
 ·simp only [List.length_set]
  refine hput _ [.slice A' r.vals.length c',.int .i64 r.lost] r (fun b=>rowZ (.slice A' r.vals.length c')=some b) _ rfl (fun all' ho hi' hl=>?_) ⟨_,rfl,ozl_flat.2 ⟨ownZ_keep hr fun b hb=>?_,fun b hb=>hb⟩⟩ (fun b hb _ hne=>hkw b (h.lt 2 b hb) hne) (fun b hb=> .inl hb) (fun b hb=>⟨.inr ⟨rfl,hrow b hb⟩,fun e=>?_⟩) (fun b hb hF=>?_)
  ·have hsz:(oRing.cod).size=2:=rfl
   rw [hsz] at ho hi' hlt hown
   have k0:=hlt 0 (by omega)
   have k1:=hlt 1 (by omega)
   have hW:ownsZ W 77 2 (.slice (some ⟨g,0,none⟩) d.ins.length T.n2) d.ins.length all:=by
    rw [← ea]
    exact ownZ_keep hown fun b hb=>hk b (ownZ_lt hown b hb)
   have h2:=ownZ_set (ownZ_set hW (j:=i*2) (by omega) (.slice A' r.vals.length c')) (j:=i*2+1) (by simp;omega) (.int .i64 r.lost)
   have:all'=(all.set (i*2) (.slice A' r.vals.length c')).set (i*2+1) (.int .i64 r.lost):=by
    refine List.ext_getElem? fun q=>?_
    rcases Nat.lt_or_ge q all.length with hq|hq
    ·by_cases e0:q=i*2
     ·subst e0
      have:=hi' 0 (by omega)
      rw [Nat.add_zero] at this
      rw [this,List.getElem?_set_ne (by omega),List.getElem?_set_self (by omega)];rfl
     ·by_cases e1:q=i*2+1
      ·subst e1
       rw [hi' 1 (by omega),List.getElem?_set_self (by simp;omega)];rfl
      ·rw [ho q hq (by omega),List.getElem?_set_ne (by omega),List.getElem?_set_ne (by omega)]
    ·rw [List.getElem?_eq_none (by omega),List.getElem?_eq_none (by simpa using hq)]
   rw [this,ea]
   exact h2
  ·have:=hrow b hb
   exact (Below.heap_setCell _ _ _ _ (by show b≠g;omega)).trans (Below.heap_setCell _ _ _ _ (by show b≠g;omega))
  ·have:=hrow b hb;omega
  ·have:=hrow b hb;have:=h.lt 2 b hF;omega
 ·rcases hb with hb|hb
  ·have:=h.lt k b hb;simp;omega
  ·simpa using hb.2.2
theorem DomO.out {G:Nat→Nat→Prop}{w:World}{d:TDom}{T:TDomS}(h:DomO G w d T){i:Nat}(hi:i < d.outs.length):
  ∃(g:Nat) (A:Option Addr) (c:Nat) (Gi:Nat→Prop),T.a4=some ⟨g,0,none⟩∧G 4 g∧g < w.heap.size∧w.cell? ⟨g,i,none⟩=some (.slice A (nth d.outs i).length c)∧(∀o,w.frozen? ⟨g,o,none⟩=false)∧
   ownsZ w 3 1 (.slice A (nth d.outs i).length c) (nth d.outs i).length ((nth d.outs i).flatMap fun n=>[Value.int .i64 n])∧(∀b,rowZ (.slice A (nth d.outs i).length c)=some b→Gi b)∧(∀b,Gi b→G 4 b∧b≠g)∧
   ∀(W:World) (A':Option Addr) (c':Nat) (l:List Int),(∀b,b < w.heap.size→¬ Gi b→W.heap[b]?=w.heap[b]?)→w.heap.size≤W.heap.size→ownsZ W 3 1 (.slice A' l.length c') l.length (l.flatMap fun n=>[Value.int .i64 n])→
    (∀b,rowZ (.slice A' l.length c')=some b→Gi b∨(w.heap.size≤b∧b < W.heap.size))→
    DomO (addG G 4 w.heap.size W.heap.size) (W.setCell ⟨g,i,none⟩ (.slice A' l.length c')) {d with outs:=d.outs.set i l} T:=by
 obtain ⟨g,c0,es,Gi,hv,hFg,hg,hrel,hcs,hGi,all,hown,hlt,hput⟩:=ozl_put h.o4 hi
 injection hv with ea _ en
 obtain ⟨vv,rfl,hsl⟩:=hrel
 obtain ⟨A,c,rfl⟩:=hsl.form
 have hc0:0 < T.n4:=by
  obtain ⟨_,_,hv',hn',_⟩:=ownZ_form h.o4.choose_spec.choose_spec.2.1
  injection hv' with _ _ e3
  omega
 have hown':=hown
 rw [ea] at hown'
 obtain ⟨cur,hh⟩:=ownZ_live hown' hc0
 have hf:=ozl_flat.1 hsl
 refine ⟨g,A,c,Gi,ea,hFg,hg,?_,fun o=>(blk hh).2.1 o,hf.1,hf.2,hGi,fun W A' c' l hk hs hr hrow=>?_⟩
 ·have:=hcs 0 _ rfl
  rwa [show i*(oInts.cod).size+0=i by show i*1+0=i;omega] at this
 have hrg:∀b,rowZ (.slice A' l.length c')=some b→b≠g:=fun b hb=>by
  rcases hrow b hb with h1|h1
  ·exact (hGi b h1).2
  ·omega
 have hkw:∀b,b < w.heap.size→¬ Gi b→b≠g→(W.setCell ⟨g,i,none⟩ (.slice A' l.length c')).heap[b]?=w.heap[b]?:=fun b hb hG hne=>(Below.heap_setCell _ _ _ _ hne).trans (hk b hb hG)
 have hkk:∀k b,k≠4→G k b→(W.setCell ⟨g,i,none⟩ (.slice A' l.length c')).heap[b]?=w.heap[b]?:=fun k b hne hb=>
  hkw b (h.lt k b hb) (fun e=>h.dis k 4 b hne hb (hGi b e).1) (fun e=>h.dis k 4 b hne hb (by rw [e];exact hFg))
 refine ⟨(h.o0.keep (hkk 0 · (by omega))).mono fun b hb=> .inl hb,(h.o1.keep (hkk 1 · (by omega))).mono fun b hb=> .inl hb,(h.o2.keep (hkk 2 · (by omega))).mono fun b hb=> .inl hb,(h.o3.keep (hkk 3 · (by omega))).mono fun b hb=> .inl hb,?_,(h.o5.keep (hkk 5 · (by omega))).mono fun b hb=> .inl hb,addG_dis h.dis h.lt,fun k b hb=>?_⟩
 ·simp only [List.length_set]
  refine hput _ [.slice A' l.length c'] l (fun b=>rowZ (.slice A' l.length c')=some b) _ rfl (fun all' ho hi' hl=>?_) ⟨_,rfl,ozl_flat.2 ⟨ownZ_keep hr fun b hb=>?_,fun b hb=>hb⟩⟩ (fun b hb hG hne=>hkw b (h.lt 4 b hb) hG hne) (fun b hb=> .inl hb) (fun b hb=>⟨?_,hrg b hb⟩) (fun b hb hF=>?_)
  ·have hsz:(oInts.cod).size=1:=rfl
   rw [hsz] at ho hi' hlt hown
   have k0:=hlt 0 (by omega)
   have hW:ownsZ W 23 1 (.slice (some ⟨g,0,none⟩) d.outs.length T.n4) d.outs.length all:=by
    rw [← ea]
    refine ownZ_keep hown fun b hb=>hk b (ownZ_lt hown b hb) fun hG=>?_
    rw [ea,rowZ_pos hc0] at hb
    injection hb with hb
    exact (hGi b hG).2 hb.symm
   have h2:=ownZ_set hW (j:=i) (by omega) (.slice A' l.length c')
   have:all'=all.set i (.slice A' l.length c'):=by
    refine List.ext_getElem? fun q=>?_
    rcases Nat.lt_or_ge q all.length with hq|hq
    ·by_cases e0:q=i
     ·subst e0
      have:=hi' 0 (by omega)
      rw [show q*1+0=q by omega] at this
      rw [this,List.getElem?_set_self (by omega)];rfl
     ·rw [ho q hq (by omega),List.getElem?_set_ne (by omega)]
    ·rw [List.getElem?_eq_none (by omega),List.getElem?_eq_none (by simpa using hq)]
   rw [this,ea]
   exact h2
  ·exact Below.heap_setCell _ _ _ _ (hrg b hb)
  ·rcases hrow b hb with h1|h1
   ·exact .inl (hGi b h1).1
   ·exact .inr ⟨rfl,h1⟩
  ·rcases hrow b hb with h1|h1
   ·exact h1
   ·have:=h.lt 4 b hF;omega
 ·rcases hb with hb|hb
  ·have:=h.lt k b hb;simp;omega
  ·simpa using hb.2.2
theorem DomO.at {G:Nat→Nat→Prop}{F:Nat→Prop}{w:World}{d:TDom}{T:TDomS}(h:DomO G w d T)(hF:∀i b,G i b→F b):TDom.At F w d T:=
 ⟨h.o0.read.mono (hF 0),h.o1.read.mono (hF 1),h.o2.read.mono (hF 2),h.o3.read.mono (hF 3),h.o4.read.mono (hF 4),h.o5.read.mono (hF 5)⟩
def oDom:OCod TDom where
 cod:=cDom
 rel:=fun F w cs d=>∃T G,cs=d.cells T∧DomO G w d T∧∀i b,G i b→F b
 toRead:=fun {F w cs d} ⟨T,G,h1,h2,h3⟩=>⟨T,h1,h2.at h3⟩
 keep:=fun {F w w' cs d} ⟨T,G,h1,h2,h3⟩ hk=>⟨T,fun i b=>G i b∧F b,h1,by
  have hb:∀i b,G i b→w'.heap[b]?=w.heap[b]?:=fun i b hG=>hk b (h3 i b hG)
  have hlt:∀i b,G i b∧F b→b < w'.heap.size:=fun i b hG=>by
   have h4:=h2.lt i b hG.1
   have h5:=hk b hG.2
   rw [Array.getElem?_eq_getElem h4] at h5
   exact (Array.getElem?_eq_some_iff.1 h5).1
  exact ⟨(h2.o0.keep (hb 0)).mono fun b hb=>⟨hb,h3 0 b hb⟩,(h2.o1.keep (hb 1)).mono fun b hb=>⟨hb,h3 1 b hb⟩,(h2.o2.keep (hb 2)).mono fun b hb=>⟨hb,h3 2 b hb⟩,(h2.o3.keep (hb 3)).mono fun b hb=>⟨hb,h3 3 b hb⟩,(h2.o4.keep (hb 4)).mono fun b hb=>⟨hb,h3 4 b hb⟩,(h2.o5.keep (hb 5)).mono fun b hb=>⟨hb,h3 5 b hb⟩,fun i j b hij h1 h2'=>h2.dis i j b hij h1.1 h2'.1,hlt⟩,fun i b hG=>hG.2⟩
 mono:=fun ⟨T,G,h1,h2,h3⟩ hk=>⟨T,G,h1,h2,fun i b hb=>hk b (h3 i b hb)⟩
def DomsO (F:Nat→Prop) (w:World) (v:Value) (ds:List TDom):Prop:=OZl oDom 46 F w v ds
end
end Go.Proofs.YtinlmkhlgclbfabDoor
