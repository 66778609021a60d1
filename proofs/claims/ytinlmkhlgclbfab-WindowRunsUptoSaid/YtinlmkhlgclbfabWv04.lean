/- WinP to CacheA -/
import Derived.Test.YtinlmkhlgclbfabWv03
import Derived.Test.YtinlmkhlgclbfabProg
import Derived.Outline
namespace Go.Proofs.Ytinlmkhlgclbfab
open Go.RowKit
section
def actN (a:TAct):Bool:=if a.kind=1 then inB 1 a.n 200 else if a.kind=2∨a.kind=3 then inB 1 a.n 1000 else if a.kind=4∨a.kind=5∨a.kind=7 then decide (0≤a.n) else true
def actErr (a:TAct):Int:=
 if !inB 1 a.kind 8 then 7
 else if !actN a∨(a.kind=4∧inB 0 a.value 255=false) then 3
 else if (a.kind≠4∧a.value≠0)∨((a.kind=6∨a.kind=8)∧a.n≠0) then 1 else 0
def worstA (a:TAct):Int:=if a.kind=1 then a.n else if a.kind=2∨a.kind=3 then 15 else 3
def actsErr (l:List TAct):Int:=if 60 < l.length then 2 else firstE l.length fun i=>actErr (nth l i)
structure ActOk (a:TAct):Prop where
 kind:1≤a.kind∧a.kind≤8
 comp:a.kind=1→1≤a.n∧a.n≤200
 line:a.kind=2∨a.kind=3→1≤a.n∧a.n≤1000
 name:a.kind=4∨a.kind=5∨a.kind=7→0≤a.n
 none:a.kind=6∨a.kind=8→a.n=0
 val:a.kind=4→0≤a.value∧a.value≤255
 noval:a.kind≠4→a.value=0
theorem actErr_zero {a:TAct} :actErr a=0↔ActOk a:=by
 unfold actErr actN
 constructor
 ·intro h
  rw [ite_zero (by omega),ite_zero (by omega),ite_zero (by omega)] at h
  simp only [Bool.not_eq_true',Bool.not_eq_false,inB_true,not_or,not_and,and_true,ne_eq,Decidable.not_not] at h
  obtain ⟨h1,⟨h2,h3⟩,h4,h5⟩:=h
  refine ⟨h1,fun e=>?_,fun e=>?_,fun e=>?_,fun e=>h5 e,fun e=>?_,fun e=>h4 e⟩
  ·rw [if_pos e,inB_true] at h2;exact h2
  ·rw [if_neg (by omega),if_pos e,inB_true] at h2;exact h2
  ·rw [if_neg (by omega),if_neg (by omega),if_pos e] at h2;simpa using h2
  ·simpa using h3 e
 ·intro h
  rw [ite_zero (by omega),ite_zero (by omega),ite_zero (by omega)]
  simp only [Bool.not_eq_true',Bool.not_eq_false,inB_true,not_or,not_and,and_true,ne_eq,Decidable.not_not]
  refine ⟨h.kind,⟨?_,fun e=>?_⟩,fun e=>h.noval e,fun e=>h.none e⟩
  ·split
   ·rename_i e;rw [inB_true];exact h.comp e
   ·split
    ·rename_i e;rw [inB_true];exact h.line e
    ·split
     ·rename_i e;simpa using h.name e
     ·rfl
  ·simpa using h.val e
theorem worstA_bd {a:TAct}(h:ActOk a):1≤worstA a∧worstA a≤200:=by
 unfold worstA
 have:=h.comp
 split
 ·exact this (by assumption)
 ·split<;>omega
def isMem (a:TAct):Bool:=decide (a.kind=2)||decide (a.kind=3)
def spendN (k:List (List TWay)) (a:TAct):Int:=if isMem a then accessCost k a.n else worstA a
def spendK (k:List (List TWay)) (a:TAct):List (List TWay):=if isMem a then accessOf k a.n (decide (a.kind=3)) else k
def refusedA (c:TCfg) (dom:Int) (a:TAct):Bool:=
 if a.kind=4 then decide ((c.chans.length:Int)≤a.n)||decide ((nth c.chans a.n.toNat).src≠dom)
 else if a.kind=5 then decide ((c.chans.length:Int)≤a.n)||decide ((nth c.chans a.n.toNat).dst≠dom)
 else if a.kind=7 then decide ((c.owners.length:Int)≤a.n)||decide (nth c.owners a.n.toNat≠dom)
 else false
def tellOf (d:TDom) (t kind a b:Int):TDom:= {d with events:=d.events++[⟨t,kind,a,b⟩]}
def takeR (r:TRing):TRing:=⟨restOf r.vals,r.lost⟩
def happenA (c:TCfg) (now:Int) (a:TAct) (cost:Int) (d:TDom):TDom:=
 if a.kind≤3 then tellOf d now 11 cost 0
 else if a.kind=4 then tellOf {d with outs:=d.outs.set a.n.toNat (nth d.outs a.n.toNat++[a.value])} now 9 a.n 0
 else if a.kind=5 then tellOf {d with ins:=d.ins.set a.n.toNat (takeR (nth d.ins a.n.toNat))} now 8 a.n (takeV (nth d.ins a.n.toNat).vals)
 else if a.kind=6 then tellOf d now 7 (now - now % c.quantum) 0
 else if a.kind=7 then {tellOf d now 10 a.n (nth d.taken a.n.toNat) with taken:=d.taken.set a.n.toNat 0}
 else d
def startJ (now:Int) (i:Nat) (d:TDom):TDom:=
 if (nth d.jobs i).ran then d else tellOf {d with jobs:=d.jobs.set i {nth d.jobs i with ran:=true} } now 3 (nth d.jobs i).task (nth d.jobs i).number
def usedJ (cost:Int) (i:Nat) (d:TDom):TDom:= {d with jobs:=d.jobs.set i {nth d.jobs i with used:=(nth d.jobs i).used+cost},next:=d.next+1}
def overA (c:TCfg) (a:TAct) (j:TJob):Int:=if a.kind=8 then 4 else if (taskOf c j.task).budget≤j.used then 5 else 0
def endJ (c:TCfg) (now:Int) (a:TAct) (i:Nat) (d:TDom):TDom:=
 if overA c a (nth d.jobs i) > 0 then {tellOf d now (overA c a (nth d.jobs i)) (nth d.jobs i).task (nth d.jobs i).number with jobs:=d.jobs.eraseIdx i} else d
def midJ (c:TCfg) (dom now:Int) (a:TAct) (cost:Int) (d:TDom):TDom:=
 if refusedA c dom a then tellOf d now 12 (d.next - 1) 0 else happenA c now a cost d
def doA (c:TCfg) (dom now:Int) (i:Nat) (a:TAct) (cost:Int) (d:TDom):TDom:=
 endJ c (now+cost) a i (midJ c dom (now+cost) a cost (usedJ cost i (startJ now i d)))
structure Win where
 now:Int
 d:TDom
 k:List (List TWay)
def idleTo (to_ at_:Int):Int:=if 0≤at_∧at_ < to_ then at_ else to_
def winStep (c:TCfg) (dom:Int) (l:List TAct) (to_:Int) (s:Win):Win:=
 let d:=releaseOf c dom s.now s.d
 let i:=bestOf c d.jobs
 if i < 0 then ⟨idleTo to_ (dueOf c dom d),d,s.k⟩
 else if (l.length:Int)≤d.next∨to_ - s.now < worstA (nth l d.next.toNat) then ⟨to_,d,s.k⟩
 else
  let a:=nth l d.next.toNat
  ⟨s.now+spendN s.k a,doA c dom s.now i.toNat a (spendN s.k a) d,spendK s.k a⟩
def winLoop (c:TCfg) (dom:Int) (l:List TAct) (to_:Int):Nat→Win→Win
 |0,s=>s
 |n+1,s=>if s.now < to_ then winLoop c dom l to_ n (winStep c dom l to_ s) else s
def winOf (c:TCfg) (dom:Int) (d:TDom) (k:List (List TWay)) (l:List TAct) (from_ to_:Int):Win:=winLoop c dom l to_ (to_ - from_).toNat ⟨from_,d,k⟩
def windowD (c:TCfg) (dom:Int) (d:TDom) (k:List (List TWay)) (l:List TAct) (from_ to_:Int):TDom:=releaseOf c dom to_ (winOf c dom d k l from_ to_).d
def windowK (c:TCfg) (dom:Int) (d:TDom) (k:List (List TWay)) (l:List TAct) (from_ to_:Int):List (List TWay):=(winOf c dom d k l from_ to_).k
end
section
set_option maxRecDepth 100000
set_option maxHeartbeats 400000
def TellsWay (P:Program) (f:FuncId) (cap:Array Value) (xs:List TWay) (I:Nat→Prop) (p:Nat→Bool) (w:World):Prop:=
 ∀k,k < xs.length→∀w',Below w.heap.size w w'→Calls P f (#[.agg #[.int .i64 (nth xs k).line,.bool (nth xs k).dirty]]++cap) w' fun e w''=>e= .returned (.bool (p k))∧Below w'.heap.size w' w''
theorem indexWay (xs:List TWay)(A:Option Addr)(c:Nat)(f:FuncId)(cap:Array Value)(p:Nat→Bool)(B:Nat)(w:World)(hB:B≤w.heap.size)
   (hs:Sl cWay (Low B) w A c xs) (he:Enters Try.prog f) (hf:TellsWay Try.prog f cap xs (Low B) p w):
    Calls Try.prog 136 #[.slice A xs.length c,.func (.func f) #[] cap] w fun e w'=>e= .returned (.int .i64 (findI xs.length p))∧Below w.heap.size w w':=by
  have hm:xs.length≤maxLen:=Nat.le_trans hs.cap hs.max
  unfold maxLen at hm
  unfold Enters at he
  go_enter Try.func136,Try.ntmps136
  go_wp2
  go_loopw [5,8] (fun _ i wr=>∃k:Nat,k≤xs.length∧i= .int .i64 k∧Hid (∀j,j < k→p j=false)∧Below w.heap.size w wr) (fun _ i _=>xs.length - (intOf i).toNat)
  case atStart=>exact ⟨0,Nat.zero_le _,rfl,fun j hj=>by omega,Below.refl _ _⟩
  case round=>
    obtain ⟨k,hk,rfl,hp,hbw⟩:=hrel
    by_cases hlt:k < xs.length
    · obtain ⟨b,o,rfl,hI,hc0,hc1⟩:=(hs.next hB hbw).at_way hlt
      go_wp2_with (refine (hf k hlt wr hbw).mono ?_;rintro e w1 ⟨rfl,hb1⟩)
      · have h1:p k=true:=by assumption
        go_ret
        rw [findI_hit hlt hp.out h1]
        exact ⟨rfl,hbw.trans (hb1.mono hbw.size)⟩
      · have h1:p k=false:=by assumption
        go_roundw
        case rel=>exact ⟨k+1,by omega,by go_num,fun j hj=>by
          by_cases e:j=k
          · subst e;exact h1
          · exact hp.out j (by omega),hbw.trans (hb1.mono hbw.size)⟩
        case measure=>simp [intOf];omega
    · go_wp2
      go_ret
      rw [findI_none fun j hj=>hp.out j (by omega)]
      exact ⟨rfl,hbw⟩
theorem containsWay (xs:List TWay)(A:Option Addr)(c:Nat)(f:FuncId)(cap:Array Value)(p:Nat→Bool)(B:Nat)(w:World)(hB:B≤w.heap.size)
   (hs:Sl cWay (Low B) w A c xs) (he:Enters Try.prog f) (hf:TellsWay Try.prog f cap xs (Low B) p w):
    Calls Try.prog 133 #[.slice A xs.length c,.func (.func f) #[] cap] w fun e w'=>e= .returned (.bool (anyI xs.length p))∧Below w.heap.size w w':=by
  have H:=zH (indexWay xs A c f cap p B w hB hs he hf)
  clear hs he hf
  go_enter Try.func133,Try.ntmps133
  go_wp2_with (go_at_call 136;refine H.out.mono ?_;rintro e w1 ⟨rfl,hb1⟩)
  go_ret
  exact ⟨ret_bool (by rw [← findI_any]),hb1⟩
def TellsWays (P:Program) (f:FuncId) (cap:Array Value) (xs:List (List TWay)) (I:Nat→Prop) (p:Nat→Bool) (w:World):Prop:=
 ∀k,k < xs.length→∀w',Below w.heap.size w w'→∀A' c',Sl cWay I w' A' c' (nth xs k)→Calls P f (#[.slice A' (nth xs k).length c']++cap) w' fun e w''=>e= .returned (.bool (p k))∧Below w'.heap.size w' w''
theorem indexWays (xs:List (List TWay))(A:Option Addr)(c:Nat)(f:FuncId)(cap:Array Value)(p:Nat→Bool)(B:Nat)(w:World)(hB:B≤w.heap.size)
   (hs:Sl cWay.slice (Low B) w A c xs) (he:Enters Try.prog f) (hf:TellsWays Try.prog f cap xs (Low B) p w):
    Calls Try.prog 132 #[.slice A xs.length c,.func (.func f) #[] cap] w fun e w'=>e= .returned (.int .i64 (findI xs.length p))∧Below w.heap.size w w':=by
  have hm:xs.length≤maxLen:=Nat.le_trans hs.cap hs.max
  unfold maxLen at hm
  unfold Enters at he
  go_enter Try.func132,Try.ntmps132
  go_wp2
  go_loopw [5,8] (fun _ i wr=>∃k:Nat,k≤xs.length∧i= .int .i64 k∧Hid (∀j,j < k→p j=false)∧Below w.heap.size w wr) (fun _ i _=>xs.length - (intOf i).toNat)
  case atStart=>exact ⟨0,Nat.zero_le _,rfl,fun j hj=>by omega,Below.refl _ _⟩
  case round=>
    obtain ⟨k,hk,rfl,hp,hbw⟩:=hrel
    by_cases hlt:k < xs.length
    · obtain ⟨b,o,A',c',rfl,hI,hcell,hin⟩:=(hs.next hB hbw).at_slice hlt
      go_wp2_with (refine (hf k hlt wr hbw A' c' hin).mono ?_;rintro e w1 ⟨rfl,hb1⟩)
      · have h1:p k=true:=by assumption
        go_ret
        rw [findI_hit hlt hp.out h1]
        exact ⟨rfl,hbw.trans (hb1.mono hbw.size)⟩
      · have h1:p k=false:=by assumption
        go_roundw
        case rel=>exact ⟨k+1,by omega,by go_num,fun j hj=>by
          by_cases e:j=k
          · subst e;exact h1
          · exact hp.out j (by omega),hbw.trans (hb1.mono hbw.size)⟩
        case measure=>simp [intOf];omega
    · go_wp2
      go_ret
      rw [findI_none fun j hj=>hp.out j (by omega)]
      exact ⟨rfl,hbw⟩
theorem containsWays (xs:List (List TWay))(A:Option Addr)(c:Nat)(f:FuncId)(cap:Array Value)(p:Nat→Bool)(B:Nat)(w:World)(hB:B≤w.heap.size)
   (hs:Sl cWay.slice (Low B) w A c xs) (he:Enters Try.prog f) (hf:TellsWays Try.prog f cap xs (Low B) p w):
    Calls Try.prog 107 #[.slice A xs.length c,.func (.func f) #[] cap] w fun e w'=>e= .returned (.bool (anyI xs.length p))∧Below w.heap.size w w':=by
  have H:=zH (indexWays xs A c f cap p B w hB hs he hf)
  clear hs he hf
  go_enter Try.func107,Try.ntmps107
  go_wp2_with (go_at_call 132;refine H.out.mono ?_;rintro e w1 ⟨rfl,hb1⟩)
  go_ret
  exact ⟨ret_bool (by rw [← findI_any]),hb1⟩
theorem cacheWithin (n a b:Int)(w:World):
  Calls Try.prog 106 #[.int .i64 n,.int .i64 a,.int .i64 b] w fun e w'=>e= .returned (.bool (inB a n b))∧w=w':=by
 go_enter Try.func106,Try.ntmps106
 go_wp2
 all_goals go_ret
 all_goals (unfold inB;simp [*]<;>omega)
theorem cacheWay1 (l line:Int)(d:Bool)(g:Nat)(w:World)(hc:w.cell? ⟨g,0,none⟩=some (.int .i64 line)):
  Calls Try.prog 134 #[.agg #[.int .i64 l,.bool d],.pointer (some ⟨g,0,none⟩)] w fun e w'=>e= .returned (.bool (l==line))∧Below w.heap.size w w':=by
 have hlt:g < w.heap.size:=World.block_lt_of_cell? w _ hc
 go_enter Try.func134,Try.ntmps134
 go_wp2
 go_ret
 exact ⟨rfl,byB⟩
theorem cacheWay2 (l:Int)(d:Bool)(w:World):
  Calls Try.prog 135 #[.agg #[.int .i64 l,.bool d]] w fun e w'=>e= .returned (.bool (l==0))∧Below w.heap.size w w':=by
 go_enter Try.func135,Try.ntmps135
 go_wp2
 go_ret
 exact ⟨rfl,byB⟩
theorem cacheCheck1 (A:Option Addr)(n c:Nat)(w:World):
  Calls Try.prog 108 #[.slice A n c] w fun e w'=>e= .returned (.bool (!inB 1 n 3))∧Below w.heap.size w w':=by
 go_enter Try.func108,Try.ntmps108
 go_wp2_with (go_at_call 106;refine (cacheWithin _ _ _ _).mono ?_;rintro e w' ⟨rfl,rfl⟩)
 go_ret
 exact ⟨rfl,Below.refl _ _⟩
theorem enters_way1:Enters Try.prog 134:=fun _ _=>by kernel_rfl
theorem enters_way2:Enters Try.prog 135:=fun _ _=>by kernel_rfl
theorem enters_check1:Enters Try.prog 108:=fun _ _=>by kernel_rfl
theorem enters_check2:Enters Try.prog 109:=fun _ _=>by kernel_rfl
theorem nth_take {T:Type}[Inhabited T]{xs:List T}{k j:Nat}(h:j < k):nth (xs.take k) j=nth xs j:=by
 unfold nth;rw [List.getD_eq_getElem?_getD,List.getElem?_take_of_lt h,List.getD_eq_getElem?_getD]
theorem anyI_congr {n:Nat}{p q:Nat→Bool}(h:∀j,j < n→p j=q j):anyI n p=anyI n q:=by
 rw [Bool.eq_iff_iff,anyI_true,anyI_true]
 exact ⟨fun ⟨j,hj,e⟩=>⟨j,hj,by rw [← h j hj];exact e⟩,fun ⟨j,hj,e⟩=>⟨j,hj,by rw [h j hj];exact e⟩⟩
theorem cacheWay (c:List (List TWay))(i k:Nat)(A:Option Addr)(n:Nat)(B:Nat)(w:World)(hB:B≤w.heap.size)(hs:Sl cWay.slice (Low B) w A n c)(hi:i < c.length)(hk:k < (nth c i).length):
  Calls Try.prog 110 #[.agg #[.slice A c.length n],.int .i64 i,.int .i64 k] w fun e w'=>e= .returned (.int .i64 (wayErr c.length i (nth c i) k))∧Below w.heap.size w w':=by
 obtain ⟨b,o,A',c',rfl,hI,hcell,hin⟩:=hs.at_slice hi
 obtain ⟨b',o',rfl,hI',hc0,hc1⟩:=hin.at_way hk
 have hbl:b < w.heap.size:=Nat.lt_of_lt_of_le hI hB
 have hbl':b' < w.heap.size:=Nat.lt_of_lt_of_le hI' hB
 have hm:c.length≤maxLen:=Nat.le_trans hs.cap hs.max
 have hm':(nth c i).length≤maxLen:=Nat.le_trans hin.cap hin.max
 unfold maxLen at hm hm'
 have hcap:=hin.cap
 have hcc:=hs.cap
 have htk:((nth c i).take k).length=k:=by rw [List.length_take];omega
 have H1:=zH (fun W (h:Below w.heap.size w W) (hg:W.cell? ⟨w.heap.size+1,0,none⟩=some (.int .i64 (nth (nth c i) k).line))=>by
  have h1:=containsWay ((nth c i).take k) (some ⟨b',o',none⟩) c' 134 #[.pointer (some ⟨w.heap.size+1,0,none⟩)] (fun j=>(nth ((nth c i).take k) j).line==(nth (nth c i) k).line) B W (Nat.le_trans hB h.size) ((hin.next hB h).take k) enters_way1
   (fun j hj W' hb=>cacheWay1 _ _ _ _ W' ((hb.cell (p:=⟨w.heap.size+1,0,none⟩) (World.block_lt_of_cell? W _ hg)).trans hg))
  rw [htk,anyI_congr (q:=fun j=>(nth (nth c i) j).line==(nth (nth c i) k).line) (fun j hj=>by rw [nth_take hj])] at h1
  exact h1)
 have H2:=zH (fun W (h:Below w.heap.size w W)=>by
  have h1:=containsWay ((nth c i).take k) (some ⟨b',o',none⟩) c' 135 #[] (fun j=>(nth ((nth c i).take k) j).line==0) B W (Nat.le_trans hB h.size) ((hin.next hB h).take k) enters_way2
   (fun j hj W' hb=>cacheWay2 _ _ W')
  rw [htk,anyI_congr (q:=fun j=>(nth (nth c i) j).line==0) (fun j hj=>by rw [nth_take hj])] at h1
  exact h1)
 clear hs hin htk
 have hi0:(0:Int)≤i:=by omega
 have hi1:(i:Int) < c.length:=by omega
 have hk0:(0:Int)≤k:=by omega
 have hk1:(k:Int) < (nth c i).length:=by omega
 have hk2:(k:Int)≤c':=by omega
 by_cases h1:inB 0 (nth (nth c i) k).line 1000=true
 ·obtain ⟨l0,l1⟩:=inB_true.1 h1
  by_cases h2:(nth (nth c i) k).line=0
  ·have b2:((nth (nth c i) k).line==0)=true:=by simp [h2]
   have E:=zH h2
   have b2':((nth (nth c i) k).line !=0)=false:=by simp [h2]
   clear h2 H1 H2
   cases hd:(nth (nth c i) k).dirty
   ·rw [hd] at hc1
    have R:=zH (show wayErr c.length i (nth c i) k=0 by simp only [wayErr];rw [if_neg (by simp [h1]),if_pos E.out,hd];rfl)
    clear hd
    go_enter Try.func110,Try.ntmps110
    go_wp2_with (go_at_call 106;refine (cacheWithin _ _ _ _).mono ?_;rintro e w' ⟨rfl,rfl⟩)
    go_ret
    exact ⟨ret_int R.out.symm,byB⟩
   ·rw [hd] at hc1
    have R:=zH (show wayErr c.length i (nth c i) k=1 by simp only [wayErr];rw [if_neg (by simp [h1]),if_pos E.out,hd];rfl)
    clear hd
    go_enter Try.func110,Try.ntmps110
    go_wp2_with (go_at_call 106;refine (cacheWithin _ _ _ _).mono ?_;rintro e w' ⟨rfl,rfl⟩)
    go_ret
    exact ⟨ret_int R.out.symm,byB⟩
  ·have b2:((nth (nth c i) k).line==0)=false:=by simp [h2]
   have b2':((nth (nth c i) k).line !=0)=true:=by simp [h2]
   by_cases h3:(nth (nth c i) k).line % (c.length:Int)=i
   ·have b3:((nth (nth c i) k).line % (c.length:Int) !=(i:Int))=false:=by simp [h3]
    by_cases h4:anyI k (fun j=>(nth (nth c i) j).line==(nth (nth c i) k).line)=true
    ·have R:=zH (show wayErr c.length i (nth c i) k=6 by simp only [wayErr];rw [if_neg (by simp [h1]),if_neg h2,if_neg (by simpa using h3),if_pos h4])
     rw [h4] at H1
     clear h2 h3 h4 H2
     go_enter Try.func110,Try.ntmps110
     go_wp2_with (go_at_call 106;refine (cacheWithin _ _ _ _).mono ?_;rintro e w' ⟨rfl,rfl⟩)
     go_at_call 133
     refine (H1.out _ byB (by simp [go_sem])).mono ?_
     rintro e w1 ⟨rfl,hb1⟩
     go_wp2
     go_ret
     exact ⟨ret_int R.out.symm,byB⟩
    ·have h4:anyI k (fun j=>(nth (nth c i) j).line==(nth (nth c i) k).line)=false:=by simpa using h4
     rw [h4] at H1
     by_cases h5:anyI k (fun j=>(nth (nth c i) j).line==0)=true
     ·have R:=zH (show wayErr c.length i (nth c i) k=4 by simp only [wayErr];rw [if_neg (by simp [h1]),if_neg h2,if_neg (by simpa using h3),if_neg (by simp [h4]),if_pos h5])
      rw [h5] at H2
      clear h2 h3 h4 h5
      go_enter Try.func110,Try.ntmps110
      go_wp2_with (go_at_call 106;refine (cacheWithin _ _ _ _).mono ?_;rintro e w' ⟨rfl,rfl⟩)
      go_at_call 133
      refine (H1.out _ byB (by simp [go_sem])).mono ?_;skip;rintro e w1 ⟨rfl,hb1⟩;have B1:Below w.heap.size w w1:=byB;have s1:=B1.size;have z1:=hb1.size;(try simp at z1);obtain ⟨hcw1,hfw1⟩:=bcell hb1
      go_wp2_with fail
      go_at_call 133
      refine (H2.out _ byB).mono ?_
      rintro e w2 ⟨rfl,hb2⟩
      go_wp2
      go_ret
      exact ⟨ret_int R.out.symm,byB⟩
     ·have h5:anyI k (fun j=>(nth (nth c i) j).line==0)=false:=by simpa using h5
      have R:=zH (show wayErr c.length i (nth c i) k=0 by simp only [wayErr];rw [if_neg (by simp [h1]),if_neg h2,if_neg (by simpa using h3),if_neg (by simp [h4]),if_neg (by simp [h5])])
      rw [h5] at H2
      clear h2 h3 h4 h5
      go_enter Try.func110,Try.ntmps110
      go_wp2_with (go_at_call 106;refine (cacheWithin _ _ _ _).mono ?_;rintro e w' ⟨rfl,rfl⟩)
      go_at_call 133
      refine (H1.out _ byB (by simp [go_sem])).mono ?_;skip;rintro e w1 ⟨rfl,hb1⟩;have B1:Below w.heap.size w w1:=byB;have s1:=B1.size;have z1:=hb1.size;(try simp at z1);obtain ⟨hcw1,hfw1⟩:=bcell hb1
      go_wp2_with fail
      go_at_call 133
      refine (H2.out _ byB).mono ?_
      rintro e w2 ⟨rfl,hb2⟩
      go_wp2
      go_ret
      exact ⟨ret_int R.out.symm,byB⟩
   ·have b3:((nth (nth c i) k).line % (c.length:Int) !=(i:Int))=true:=by simp [h3]
    have R:=zH (show wayErr c.length i (nth c i) k=4 by simp only [wayErr];rw [if_neg (by simp [h1]),if_neg h2,if_pos (by simpa using h3)])
    clear h2 h3 H1 H2
    go_enter Try.func110,Try.ntmps110
    go_wp2_with (go_at_call 106;refine (cacheWithin _ _ _ _).mono ?_;rintro e w' ⟨rfl,rfl⟩)
    go_ret
    exact ⟨ret_int R.out.symm,byB⟩
 ·have h1':inB 0 (nth (nth c i) k).line 1000=false:=by simpa using h1
  go_enter Try.func110,Try.ntmps110
  go_wp2_with (go_at_call 106;refine (cacheWithin _ _ _ _).mono ?_;rintro e w' ⟨rfl,rfl⟩)
  go_ret
  exact ⟨ret_int (by simp [wayErr,h1']),byB⟩
theorem cacheCheck2 (c:List (List TWay))(A A':Option Addr)(n n' m g B:Nat)(w:World)(hB:B≤w.heap.size)(hs:Sl cWay.slice (Low B) w A n c)(h0:0 < c.length)(hm:m≤9223372036854775807)(hg:w.cell? ⟨g,0,none⟩=some (.slice A c.length n)):
  Calls Try.prog 109 #[.slice A' m n',.pointer (some ⟨g,0,none⟩)] w fun e w'=>e= .returned (.bool (m !=(nth c 0).length))∧Below w.heap.size w w':=by
 obtain ⟨b,o,A1,c1,rfl,hI,hcell,hin⟩:=hs.at_slice h0
 have hm1:c.length≤maxLen:=Nat.le_trans hs.cap hs.max
 have hm2:(nth c 0).length≤maxLen:=Nat.le_trans hin.cap hin.max
 unfold maxLen at hm1 hm2
 have hlt:g < w.heap.size:=World.block_lt_of_cell? w _ hg
 have hi1:(0:Int) < c.length:=by omega
 rw [Nat.add_zero] at hcell
 go_enter Try.func109,Try.ntmps109
 go_wp2_with fail
 go_ret
 exact ⟨ret_bool (by rw [Bool.eq_iff_iff];simp only [bne_iff_ne,ne_eq];omega),Below.refl _ _⟩
theorem cacheCheck (c:List (List TWay))(A:Option Addr)(n B:Nat)(w:World)(hB:B≤w.heap.size)(hs:Sl cWay.slice (Low B) w A n c):
  Calls Try.prog 63 #[.agg #[.slice A c.length n]] w fun e w'=>e= .returned (.int .i64 (checkCache c))∧Below w.heap.size w w':=by
 have hm:c.length≤maxLen:=Nat.le_trans hs.cap hs.max
 unfold maxLen at hm
 have H1:=zH (fun W (h:Below w.heap.size w W)=>containsWays c A n 108 #[] (fun i=>!inB 1 (nth c i).length 3) B W (Nat.le_trans hB h.size) (hs.next hB h) enters_check1
  (fun k hk W' hb A' c' _=>cacheCheck1 A' _ c' W'))
 by_cases h1:inB 1 c.length 4=true
 ·have h0:0 < c.length:=by have:=inB_true.1 h1;omega
  have hc4:c.length≤4:=by have:=inB_true.1 h1;omega
  by_cases h2:anyI c.length (fun i=>!inB 1 (nth c i).length 3)=true
  ·have R:=zH (show checkCache c=3 by simp only [checkCache];rw [if_neg (by simp [h1]),if_pos h2])
   rw [h2] at H1
   clear hs h2
   go_enter Try.func63,Try.ntmps63
   go_wp2_with (first|(go_at_call 106;refine (cacheWithin _ _ _ _).mono ?_;rintro e w' ⟨rfl,rfl⟩)|(go_at_call 107;refine (H1.out _ byB).mono ?_;rintro e w1 ⟨rfl,hb1⟩))
   go_ret
   exact ⟨ret_int R.out.symm,byB⟩
  ·have h2:anyI c.length (fun i=>!inB 1 (nth c i).length 3)=false:=by simpa using h2
   have H2:=zH (fun W (h:Below w.heap.size w W) (hg:W.cell? ⟨w.heap.size,0,none⟩=some (.slice A c.length n))=>containsWays c A n 109 #[.pointer (some ⟨w.heap.size,0,none⟩)] (fun i=>(nth c i).length !=(nth c 0).length) B W (Nat.le_trans hB h.size) (hs.next hB h) enters_check2
    (fun k hk W' hb A' c' hA=>by
     have hm':(nth c k).length≤maxLen:=Nat.le_trans hA.cap hA.max
     unfold maxLen at hm'
     exact cacheCheck2 c A A' n c' _ w.heap.size B W' (Nat.le_trans hB (Nat.le_trans h.size hb.size)) ((hs.next hB h).next (Nat.le_trans hB h.size) hb) h0 (by omega) ((hb.cell (p:=⟨w.heap.size,0,none⟩) (World.block_lt_of_cell? W _ hg)).trans hg)))
   rw [h2] at H1
   by_cases h3:anyI c.length (fun i=>(nth c i).length !=(nth c 0).length)=true
   ·have R:=zH (show checkCache c=1 by simp only [checkCache];rw [if_neg (by simp [h1]),if_neg (by simp [h2]),if_pos h3])
    rw [h3] at H2
    clear hs h2 h3
    go_enter Try.func63,Try.ntmps63
    go_wp2_with (go_at_call 106;refine (cacheWithin _ _ _ _).mono ?_;rintro e w' ⟨rfl,rfl⟩)
    go_at_call 107
    refine (H1.out _ byB).mono ?_;skip;rintro e w1 ⟨rfl,hb1⟩;have B1:Below w.heap.size w w1:=byB;have s1:=B1.size;have z1:=hb1.size;(try simp at z1);obtain ⟨hcw1,hfw1⟩:=bcell hb1
    go_wp2_with fail
    go_at_call 107
    refine (H2.out _ byB (by simp [go_sem,hcw1])).mono ?_;skip;rintro e w2 ⟨rfl,hb2⟩;have B2:Below w.heap.size w w2:=byB;have s2:=B2.size;have z2:=hb2.size;(try simp at z2);obtain ⟨hcw2,hfw2⟩:=bcell hb2
    go_wp2_with fail
    go_ret
    exact ⟨ret_int R.out.symm,byB⟩
   ·have h3:anyI c.length (fun i=>(nth c i).length !=(nth c 0).length)=false:=by simpa using h3
    have R:=zH (show checkCache c=firstE c.length (fun i=>setErr c.length i (nth c i)) by simp only [checkCache];rw [if_neg (by simp [h1]),if_neg (by simp [h2]),if_neg (by simp [h3])])
    have hlen3:=zH (anyI_false.1 h2)
    rw [h3] at H2
    have HW:=zH (fun W (h:Below w.heap.size w W) i k hi hk=>cacheWay c i k A n B W (Nat.le_trans hB h.size) (hs.next hB h) hi hk)
    clear h2 h3
    go_enter Try.func63,Try.ntmps63
    go_wp2_with (go_at_call 106;refine (cacheWithin _ _ _ _).mono ?_;rintro e w' ⟨rfl,rfl⟩)
    go_at_call 107
    refine (H1.out _ byB).mono ?_;skip;rintro e w1 ⟨rfl,hb1⟩;have B1:Below w.heap.size w w1:=byB;have s1:=B1.size;have z1:=hb1.size;(try simp at z1);obtain ⟨hcw1,hfw1⟩:=bcell hb1
    go_wp2_with fail
    go_at_call 107
    refine (H2.out _ byB (by simp [go_sem,hcw1])).mono ?_;skip;rintro e w2 ⟨rfl,hb2⟩;have B2:Below w.heap.size w w2:=byB;have s2:=B2.size;have z2:=hb2.size;(try simp at z2);obtain ⟨hcw2,hfw2⟩:=bcell hb2
    have hc2:w2.cell? ⟨w.heap.size,0,none⟩=some (.slice A c.length n):=(hcw2 _ _ (by omega)).trans (by simp [go_sem,hcw1])
    have hz2:w.heap.size < w2.heap.size:=World.block_lt_of_cell? w2 _ hc2
    clear hcw1 hfw1 hb1 hcw2 hfw2 hb2 H1 H2
    go_wp2_with fail
    go_loopw [24] (fun iv wr=>∃i:Nat,i≤c.length∧iv= .int .i64 i∧Hid (∀j,j < i→setErr c.length j (nth c j)=0)∧Below w2.heap.size w2 wr) (fun iv _=>c.length - (intOf iv).toNat)
    case atStart=>exact ⟨0,Nat.zero_le _,rfl,(fun j hj=>by omega),Below.refl _ _⟩
    case round=>
     obtain ⟨i,hi,rfl,hp,hbr⟩:=hrel
     have sr:=hbr.size
     obtain ⟨wo,rfl⟩:∃wo:World,wo=wr:=⟨_,rfl⟩
     have Bo:Below w.heap.size w wo:=byB
     have so:=Bo.size
     have hco:wo.cell? ⟨w.heap.size,0,none⟩=some (.slice A c.length n):=(hbr.cell (p:=⟨w.heap.size,0,none⟩) hz2).trans hc2
     have hzo:w.heap.size < wo.heap.size:=World.block_lt_of_cell? wo _ hco
     by_cases hlt:i < c.length
     ·obtain ⟨b,o,A1,c1,rfl,hI,hcell,hin⟩:=(hs.next hB Bo).at_slice hlt
      have hl3:(nth c i).length≤3:=by
       have:=hlen3.out i hlt
       have:=inB_true.1 (show inB 1 (nth c i).length 3=true by simpa using this)
       omega
      go_wp2_with fail
      go_loopw [31] (fun kv wi=>∃k:Nat,k≤(nth c i).length∧kv= .int .i64 k∧Hid (∀j,j < k→wayErr c.length i (nth c i) j=0)∧Below wo.heap.size wo wi) (fun kv _=>(nth c i).length - (intOf kv).toNat)
      case atStart=>exact ⟨0,Nat.zero_le _,rfl,(fun j hj=>by omega),Below.refl _ _⟩
      case round=>
       obtain ⟨k,hk,rfl,hq,hbi⟩:=hrel
       have si:=hbi.size
       obtain ⟨wq,rfl⟩:∃wq:World,wq=wr:=⟨_,rfl⟩
       have Bi:Below w.heap.size w wq:=byB
       have hci:wq.cell? ⟨w.heap.size,0,none⟩=some (.slice (some ⟨b,o,none⟩) c.length n):=(hbi.cell (p:=⟨w.heap.size,0,none⟩) hzo).trans hco
       by_cases hkt:k < (nth c i).length
       ·by_cases he:wayErr c.length i (nth c i) k=0
        ·have hb:(wayErr c.length i (nth c i) k !=0)=false:=by simp [he]
         have E:=zH he
         clear he
         go_wp2_with (go_at_call 110;refine (HW.out _ byB i k hlt hkt).mono ?_;rintro e w3 ⟨rfl,hb3⟩)
         go_roundw
         case rel=>exact ⟨k+1,by omega,by go_num,(fun j hj=>by
          by_cases e:j=k
          ·subst e;exact E.out
          ·exact hq.out j (by omega)),byB⟩
         case measure=>simp [intOf];omega
        ·have hb:(wayErr c.length i (nth c i) k !=0)=true:=by simp [he]
         have E:=zH he
         clear he
         go_wp2_with (go_at_call 110;refine (HW.out _ byB i k hlt hkt).mono ?_;rintro e w3 ⟨rfl,hb3⟩)
         go_ret
         refine ⟨ret_int ?_,byB⟩
         have h1:setErr c.length i (nth c i)=wayErr c.length i (nth c i) k:=firstE_hit hkt hq.out E.out
         rw [R.out,firstE_hit hlt hp.out (by rw [h1];exact E.out),h1]
       ·go_wp2_with fail
        go_roundw
        case rel=>exact ⟨i+1,by omega,by go_num,(fun j hj=>by
         by_cases e:j=i
         ·subst e;exact firstE_none fun q hq'=>hq.out q (by omega)
         ·exact hp.out j (by omega)),hbr.trans (hbi.mono sr)⟩
        case measure=>simp [intOf];omega
     ·go_wp2_with fail
      go_ret
      exact ⟨ret_int (by rw [R.out,firstE_none fun j hj=>hp.out j (by omega)]),byB⟩
 ·have h1:inB 1 c.length 4=false:=by simpa using h1
  have R:=zH (show checkCache c=3 by simp only [checkCache];rw [if_pos h1])
  clear hs
  go_enter Try.func63,Try.ntmps63
  go_wp2_with (go_at_call 106;refine (cacheWithin _ _ _ _).mono ?_;rintro e w' ⟨rfl,rfl⟩)
  go_ret
  exact ⟨ret_int R.out.symm,byB⟩
end
end Go.Proofs.Ytinlmkhlgclbfab
