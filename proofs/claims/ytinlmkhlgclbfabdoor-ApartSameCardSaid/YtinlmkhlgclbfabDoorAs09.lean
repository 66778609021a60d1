/- OwnE to MemS -/
import Derived.Test.YtinlmkhlgclbfabDoorAs08
import Derived.Test.YtinlmkhlgclbfabDoorProg
import Derived.Outline
namespace Go.Proofs.YtinlmkhlgclbfabDoor
open Go.RowKit
section
set_option maxHeartbeats 1000000
theorem one_dom (d:TDom)(T:TDomS):∀u∈d.cells T,u.oneCell'=true:=by
 intro u hu
 simp only [TDom.cells,List.mem_cons,List.mem_nil_iff,or_false] at hu
 rcases hu with rfl|rfl|rfl|rfl|rfl|rfl|rfl<;>rfl
theorem Sl.at_dom {I:Nat→Prop}{w:World}{A:Option Addr}{c:Nat}{xs:List TDom}(h:Sl cDom I w A c xs){k:Nat}(hk:k < xs.length):
  ∃(b o:Nat) (T:TDomS),A=some ⟨b,o,none⟩∧I b∧w.cell? ⟨b,o+k*7,none⟩=some (.slice T.a0 (nth xs k).jobs.length T.n0)∧w.cell? ⟨b,o+k*7+1,none⟩=some (.slice T.a1 (nth xs k).released.length T.n1)∧w.cell? ⟨b,o+k*7+2,none⟩=some (.int .i64 (nth xs k).next)∧
   w.cell? ⟨b,o+k*7+3,none⟩=some (.slice T.a2 (nth xs k).ins.length T.n2)∧w.cell? ⟨b,o+k*7+4,none⟩=some (.slice T.a3 (nth xs k).taken.length T.n3)∧w.cell? ⟨b,o+k*7+5,none⟩=some (.slice T.a4 (nth xs k).outs.length T.n4)∧w.cell? ⟨b,o+k*7+6,none⟩=some (.slice T.a5 (nth xs k).events.length T.n5)∧TDom.At I w (nth xs k) T:=by
 obtain ⟨b,o,es,hA,hI,⟨T,rfl,hT⟩,hc⟩:=h.cells hk
 exact ⟨b,o,T,hA,hI,hc 0 _ rfl,hc 1 _ rfl,hc 2 _ rfl,hc 3 _ rfl,hc 4 _ rfl,hc 5 _ rfl,hc 6 _ rfl,hT⟩
theorem doms_step {F:Nat→Prop}{w0:World}{A:Option Addr}{i n:Nat}{xs:List TDom}(hi:xs.length=i)(hO:DomsO F w0 (.slice A i n) xs):
  ∃all:List Value,ownsZ w0 46 7 (.slice A i n) i all∧(∀b,rowZ (.slice A i n)=some b→F b)∧
   ∀(w w' w'':World) (A':Option Addr) (n':Nat) (Fx F':Nat→Prop) (x:TDom) (T:TDomS) (G:Nat→Nat→Prop),ownsZ w' 46 7 (.slice A' (i+1) n') (i+1) (all++x.cells T)→w.grownBy w' (rowZ (.slice A i n))→(∀b,rowZ (.slice A' (i+1) n')=some b→rowZ (.slice A i n)=some b∨b=w.heap.size)→
    DomO G w x T→(∀j b,G j b→Fx b)→KeepI F w0 w→(∀b,F b→¬ Fx b)→(∀b,F b∨Fx b→b < w.heap.size)→(∀b,F b∨Fx b→F' b)→(∀b,b=w.heap.size→b < w'.heap.size→F' b)→KeepI F' w' w''→DomsO F' w'' (.slice A' (i+1) n') (xs++[x]):=by
 subst hi
 obtain ⟨ess,G,h1,h2,h3,h4,h5,h6⟩:=hO
 exact ⟨ess.flatten,h2,h3,fun _ _ _ _ _ _ _ _ _ _ own3 gr3 at3 hx hG hk hd hlt hF hF' hk2=>ozl_step (e:=oDom) h1 h4 h5 h6 h3 gr3 at3 own3 ⟨_,_,rfl,hx,hG⟩ hk hd hlt hF hF' hk2⟩
theorem DomsO.at {F:Nat→Prop}{w:World}{A:Option Addr}{n c:Nat}{xs:List TDom}(h:DomsO F w (.slice A n c) xs):Sl cDom F w A c xs:=OZl.read h
end
section
set_option maxRecDepth 100000
set_option maxHeartbeats 400000
def TellsWay (P:Program) (f:FuncId) (cap:Array Value) (xs:List TWay) (I:Nat→Prop) (p:Nat→Bool) (w:World):Prop:=
 ∀k,k < xs.length→∀w',Below w.heap.size w w'→Calls P f (#[.agg #[.int .i64 (nth xs k).line,.bool (nth xs k).dirty]]++cap) w' fun e w''=>e= .returned (.bool (p k))∧Below w'.heap.size w' w''
theorem indexWay (xs:List TWay)(A:Option Addr)(c:Nat)(f:FuncId)(cap:Array Value)(p:Nat→Bool)(B:Nat)(w:World)(hB:B≤w.heap.size)
   (hs:Sl cWay (Low B) w A c xs) (he:Enters Tryd.prog f) (hf:TellsWay Tryd.prog f cap xs (Low B) p w):
    Calls Tryd.prog 95 #[.slice A xs.length c,.func (.func f) #[] cap] w fun e w'=>e= .returned (.int .i64 (findI xs.length p))∧Below w.heap.size w w':=by
  have hm:xs.length≤maxLen:=Nat.le_trans hs.cap hs.max
  unfold maxLen at hm
  unfold Enters at he
  go_enter Tryd.func95,Tryd.ntmps95
  go_wp2
  go_loopw [5,8] (fun _ i wr=>∃k:Nat,k≤xs.length∧i= .int .i64 k∧Hid (∀j,j < k→p j=false)∧Below w.heap.size w wr) (fun _ i _=>xs.length - (intOf i).toNat)
  case atStart=>exact ⟨0,Nat.zero_le _,rfl,fun j hj=>by omega,Below.refl _ _⟩
  case round=>
    obtain ⟨k,hk,rfl,hp,hbw⟩:=hrel
    by_cases hlt:k < xs.length
    · obtain ⟨b,o,rfl,hI,hc0,hc1⟩:=(hs.next hB hbw).at_way hlt
      go_wp2_with (refine (hf k hlt wr hbw).mono ?_;rintro e w1 ⟨rfl,hb1⟩)
      · have h1:p k=true:=by assumption
        go_ret
        rw [findI_hit hlt hp.out h1]
        exact ⟨rfl,hbw.trans (hb1.mono hbw.size)⟩
      · have h1:p k=false:=by assumption
        go_roundw
        case rel=>exact ⟨k+1,by omega,by go_num,fun j hj=>by
          by_cases e:j=k
          · subst e;exact h1
          · exact hp.out j (by omega),hbw.trans (hb1.mono hbw.size)⟩
        case measure=>simp [intOf];omega
    · go_wp2
      go_ret
      rw [findI_none fun j hj=>hp.out j (by omega)]
      exact ⟨rfl,hbw⟩
end
section
set_option maxRecDepth 100000
set_option maxHeartbeats 400000
end
section
set_option maxRecDepth 100000
set_option maxHeartbeats 400000
theorem nth_take {T:Type}[Inhabited T]{xs:List T}{k j:Nat}(h:j < k):nth (xs.take k) j=nth xs j:=by
 unfold nth;rw [List.getD_eq_getElem?_getD,List.getElem?_take_of_lt h,List.getD_eq_getElem?_getD]
theorem mailWithin (n a b:Int)(w:World):
  Calls Tryd.prog 47 #[.int .i64 n,.int .i64 a,.int .i64 b] w fun e w'=>e= .returned (.bool (inB a n b))∧w=w':=by
 go_enter Tryd.func47,Tryd.ntmps47
 go_wp2
 all_goals go_ret
 all_goals (unfold inB;simp [*]<;>omega)
def Tells (P:Program) (f:FuncId) (cap:Array Value) (n:Nat) (val:Nat→Value) (p:Nat→Bool) (w:World):Prop:=
 ∀k,k < n→∀w',Below w.heap.size w w'→Calls P f (#[val k]++cap) w' fun e w''=>e= .returned (.bool (p k))∧Below w'.heap.size w' w''
theorem indexInt (xs:List Int)(A:Option Addr)(c:Nat)(f:FuncId)(cap:Array Value)(p:Nat→Bool)(B:Nat)(w:World)(hB:B≤w.heap.size)
   (hs:Sl cInt (Low B) w A c xs) (he:Enters Tryd.prog f) (hf:Tells Tryd.prog f cap xs.length (fun k=> .int .i64 (nth xs k)) p w):
    Calls Tryd.prog 67 #[.slice A xs.length c,.func (.func f) #[] cap] w fun e w'=>e= .returned (.int .i64 (findI xs.length p))∧Below w.heap.size w w':=by
  have hm:xs.length≤maxLen:=Nat.le_trans hs.cap hs.max
  unfold maxLen at hm
  unfold Enters at he
  go_enter Tryd.func67,Tryd.ntmps67
  go_wp2
  go_loopw [5,8] (fun _ i wr=>∃k:Nat,k≤xs.length∧i= .int .i64 k∧Hid (∀j,j < k→p j=false)∧Below w.heap.size w wr) (fun _ i _=>xs.length - (intOf i).toNat)
  case atStart=>exact ⟨0,Nat.zero_le _,rfl,fun j hj=>by omega,Below.refl _ _⟩
  case round=>
    obtain ⟨k,hk,rfl,hp,hbw⟩:=hrel
    by_cases hlt:k < xs.length
    · obtain ⟨b,o,rfl,hI,hcell⟩:=(hs.next hB hbw).at_int hlt
      go_wp2_with (refine (hf k hlt wr hbw).mono ?_;rintro e w1 ⟨rfl,hb1⟩)
      · have h1:p k=true:=by assumption
        go_ret
        rw [findI_hit hlt hp.out h1]
        exact ⟨rfl,hbw.trans (hb1.mono hbw.size)⟩
      · have h1:p k=false:=by assumption
        go_roundw
        case rel=>exact ⟨k+1,by omega,by go_num,fun j hj=>by
          by_cases e:j=k
          · subst e;exact h1
          · exact hp.out j (by omega),hbw.trans (hb1.mono hbw.size)⟩
        case measure=>simp [intOf];omega
    · go_wp2
      go_ret
      rw [findI_none fun j hj=>hp.out j (by omega)]
      exact ⟨rfl,hbw⟩
theorem containsInt (xs:List Int)(A:Option Addr)(c:Nat)(f:FuncId)(cap:Array Value)(p:Nat→Bool)(B:Nat)(w:World)(hB:B≤w.heap.size)
   (hs:Sl cInt (Low B) w A c xs) (he:Enters Tryd.prog f) (hf:Tells Tryd.prog f cap xs.length (fun k=> .int .i64 (nth xs k)) p w):
    Calls Tryd.prog 55 #[.slice A xs.length c,.func (.func f) #[] cap] w fun e w'=>e= .returned (.bool (anyI xs.length p))∧Below w.heap.size w w':=by
  have H:=zH (indexInt xs A c f cap p B w hB hs he hf)
  clear hs he hf
  go_enter Tryd.func55,Tryd.ntmps55
  go_wp2_with (go_at_call 67;refine H.out.mono ?_;rintro e w1 ⟨rfl,hb1⟩)
  go_ret
  exact ⟨ret_bool (by rw [← findI_any]),hb1⟩
theorem tyInt:TyS Tryd.prog 23 3 (.int .i64 0) 1 8:=⟨Tryd.underlying23,info_of (by kernel_rfl),rfl,by decide⟩
theorem refSameInts (xs ys:List Int)(A A':Option Addr)(c c':Nat)(B:Nat)(w:World)(hB:B≤w.heap.size)(hs:Sl cInt (Low B) w A c xs)(hs':Sl cInt (Low B) w A' c' ys):
  Calls Tryd.prog 22 #[.slice A xs.length c,.slice A' ys.length c'] w fun e w'=>e= .returned (.bool (decide (xs=ys)))∧Below w.heap.size w w':=by
 have hm:xs.length≤maxLen:=Nat.le_trans hs.cap hs.max
 have hm':ys.length≤maxLen:=Nat.le_trans hs'.cap hs'.max
 unfold maxLen at hm hm'
 by_cases hl:xs.length=ys.length
 ·have hlb:(((xs.length:Nat):Int) !=((ys.length:Nat):Int))=false:=by simp [hl]
  have HL:=zH hl
  clear hl
  go_enter Tryd.func22,Tryd.ntmps22
  go_wp2
  go_loopw [5] (fun i wr=>∃k:Nat,k≤xs.length∧i= .int .i64 k∧Hid (∀j,j < k→nth xs j=nth ys j)∧Below w.heap.size w wr) (fun i _=>xs.length - (intOf i).toNat)
  case atStart=>exact ⟨0,Nat.zero_le _,rfl,(fun j hj=>by omega),Below.refl _ _⟩
  case round=>
   obtain ⟨k,hk,rfl,hp,hbw⟩:=hrel
   by_cases hlt:k < xs.length
   ·have hlt':k < ys.length:=by have:=HL.out;omega
    obtain ⟨b,o,rfl,hI,hcell⟩:=(hs.next hB hbw).at_int hlt
    obtain ⟨b',o',rfl,hI',hcell'⟩:=(hs'.next hB hbw).at_int hlt'
    have h0:(0:Int)≤k:=by omega
    have h1:(k:Int) < xs.length:=by omega
    have h2:(k:Int) < ys.length:=by omega
    go_wp2_with fail
    go_quiet (fail)
    go_wp2
    ·have hne:(nth xs k !=nth ys k)=true:=by assumption
     go_ret
     refine ⟨ret_bool ?_,below_drewN hbw _⟩
     rw [eq_comm,decide_eq_false_iff_not]
     intro e;subst e;simp at hne
    ·have hne:(nth xs k !=nth ys k)=false:=by assumption
     go_roundw
     case rel=>exact ⟨k+1,by omega,by go_num,(fun j hj=>by
      by_cases e:j=k
      ·subst e;simpa using hne
      ·exact hp.out j (by omega)),below_drewN hbw _⟩
     case measure=>simp [intOf];omega
   ·go_wp2
    go_ret
    refine ⟨ret_bool ?_,hbw⟩
    rw [eq_comm,decide_eq_true_iff]
    refine List.ext_getElem HL.out fun j h1 h2=>?_
    rw [← nth_eq h1,← nth_eq h2]
    exact hp.out j (by omega)
 ·have hlb:(((xs.length:Nat):Int) !=((ys.length:Nat):Int))=true:=by simp;omega
  have HL:=zH hl
  clear hl
  go_enter Tryd.func22,Tryd.ntmps22
  go_wp2
  go_ret
  refine ⟨ret_bool ?_,Below.refl _ _⟩
  rw [eq_comm,decide_eq_false_iff_not]
  intro e
  exact HL.out (by rw [e])
theorem refSameRing (xs ys:List Int)(lx ly:Int)(A A':Option Addr)(c c':Nat)(B:Nat)(w:World)(hB:B≤w.heap.size)(hs:Sl cInt (Low B) w A c xs)(hs':Sl cInt (Low B) w A' c' ys):
  Calls Tryd.prog 23 #[.agg #[.slice A xs.length c,.int .i64 lx],.agg #[.slice A' ys.length c',.int .i64 ly]] w fun e w'=>e= .returned (.bool (decide (lx=ly)&&decide (xs=ys)))∧Below w.heap.size w w':=by
 have H:=fun W (h:Below w.heap.size w W)=>refSameInts xs ys A A' c c' B W (Nat.le_trans hB h.size) (hs.next hB h) (hs'.next hB h)
 clear hs hs'
 by_cases hl:lx=ly
 ·have hlb:(lx==ly)=true:=by simp [hl]
  have HL:=zH hl
  clear hl
  go_enter Tryd.func23,Tryd.ntmps23
  go_wp2_with (go_at_call 22;refine (H _ byB).mono ?_;rintro e w1 ⟨rfl,hb1⟩)
  go_ret
  refine ⟨ret_bool (by simp [HL.out]),?_⟩
  exact Below.trans byB (hb1.mono (by simp;omega))
 ·have hlb:(lx==ly)=false:=by simp [hl]
  have HL:=zH hl
  clear hl
  go_enter Tryd.func23,Tryd.ntmps23
  go_wp2
  go_ret
  exact ⟨ret_bool (by simp [HL.out]),byB⟩
def RetRow (e k n:Nat) (cells:List Value) (w:World) (en:Ending) (w':World):Prop:=∃A c,en= .returned (.slice A n c)∧w'.ownsRow w.heap.size e k (.slice A n c) n cells∧Below w.heap.size w w'
theorem cloneInt (xs:List Int)(A:Option Addr)(c:Nat)(B:Nat)(w:World)(hB:B≤w.heap.size)(hs:Sl cInt (Low B) w A c xs)(hb:xs.length*8≤140737488355328):
  Calls Tryd.prog 97 #[.slice A xs.length c] w (RetRow 3 1 xs.length (xs.flatMap fun n=>[Value.int .i64 n]) w):=by
 have hm:xs.length≤maxLen:=Nat.le_trans hs.cap hs.max
 cases A with
 |none=>
  have h0:xs=[]:=List.eq_nil_of_length_eq_zero (by have:=hs.nil rfl;have:=hs.cap;omega)
  subst h0
  have hq:=fun w=>Lib.run_eql_slice_nil (P:=Tryd.prog) w 23 3 none 0 c 0 0 Tryd.underlying23
  go_enter Tryd.func97,Tryd.ntmps97
  go_wp2
  go_ret
  exact ⟨_,_,rfl,World.ownsRow_nil _ _ _ _,Below.refl _ _⟩
 |some ad=>
  have hq:=fun w=>Lib.run_eql_slice_nil (P:=Tryd.prog) w 23 3 (some ad) xs.length c 0 0 Tryd.underlying23
  have hsrc1:=zH ((hs.next hB (w':=w.alloc (.cells #[] 3)) byB).src (f:=fun n=>[Value.int .i64 n]))
  clear hs
  have ho:=World.ownsRow_made w (base:=w.heap.size) (e:=3) (size:=1) #[] 0 (Nat.le_refl _) (by unfold maxLen;omega) rfl
  go_enter Tryd.func97,Tryd.ntmps97
  go_wp2_with (at_builtin;refine wpList_app rfl (.tmp 5) (.tmp 6) _ rfl w.heap.size tyInt _ 0 [] (by rfl) ho (some ad) xs.length c (xs.flatMap fun n=>[Value.int .i64 n]) (by rfl) hsrc1.out (one_int _) ?_ ?_ ?_ ?_;(omega);(omega);(simp);intro A1 c1 w1 hown1 hg1 hat1)
  go_ret
  simp only [Nat.zero_add,List.nil_append] at hown1
  exact ⟨A1,c1,by simp,hown1,grown_below byB (by simp) ho hg1⟩
theorem tyWay:TyS Tryd.prog 114 122 (.agg #[.int .i64 0,.bool false]) 2 16:=⟨Tryd.underlying114,info_of (by kernel_rfl),rfl,by decide⟩
end
section
theorem make_run {P:Program}{t e:TypeId}{z:Value}{size bytes:Nat}(T:TyS P t e z size bytes)(n:Nat)(hb:bytes*n≤281474976710656)(hn:n≤9223372036854775807)(w:World):
  (Instr.makeSlice t (.int .i64 n) (.int .i64 n)).run P w= .ok (.slice (some ⟨w.heap.size,0,none⟩) n n) (w.alloc (.cells (madeCells z.cells (n*size)) e)):=by
 obtain ⟨i,hi,hz,hs,hby⟩:=T.info
 have hr:=run_make (P:=P) w t e i z T.ht hi hz .i64 .i64 n n (by omega) (Int.le_refl _) (by
  rw [hby]
  have:((bytes*n:Nat):Int)≤281474976710656:=by omega
  rwa [Int.natCast_mul] at this) (by omega)
 simp only [Int.toNat_natCast] at hr
 rw [hr,hs]
theorem flatten_rep_len {α:Type}(l:List α)(n:Nat):(List.replicate n l).flatten.length=n*l.length:=by simp
theorem flatten_rep_get {α:Type}{l:List α}(n j:Nat)(h0:0 < l.length)(hj:j < n*l.length):(List.replicate n l).flatten[j]?=l[j % l.length]?:=by
 have h1:j / l.length < n:=Nat.div_lt_of_lt_mul (by rw [Nat.mul_comm];exact hj)
 have h2:=flatten_slot (k:=l.length) (List.replicate n l) (j / l.length) l (by intro e he;rw [List.mem_replicate] at he;rw [he.2]) (by rw [List.getElem?_replicate];simp [h1]) (j % l.length)
 have h3:=Nat.mod_lt j h0
 have h4:=h2 l[j % l.length] (List.getElem?_eq_getElem h3)
 rw [Nat.mul_comm (j / l.length),Nat.div_add_mod] at h4
 rw [h4,List.getElem?_eq_getElem h3]
theorem madeCells_flat (z:Array Value)(n:Nat)(h0:0 < z.size):(madeCells z (n*z.size)).toList=(List.replicate n z.toList).flatten:=by
 refine List.ext_getElem? fun j=>?_
 rcases Nat.lt_or_ge j (n*z.size) with hj|hj
 ·rw [flatten_rep_get n j (by simpa using h0) (by simpa using hj)]
  have hm:=Nat.mod_lt j h0
  simp [madeCells,hj,hm]
 ·rw [List.getElem?_eq_none (by simp [madeCells];exact hj),List.getElem?_eq_none (by rw [flatten_rep_len];simpa using hj)]
theorem made_own {P:Program}{t e:TypeId}{z:Value}{size bytes:Nat}(T:TyS P t e z size bytes)(n:Nat)(hn:n≤9223372036854775807)(w:World)(g:Nat)(hg:g=w.heap.size):
  (w.alloc (.cells (madeCells z.cells (n*size)) e)).ownsRow 0 e size (.slice (some ⟨g,0,none⟩) n n) n (List.replicate n z.cells.toList).flatten:=by
 subst hg
 have h:=World.ownsRow_lit w (base:=0) (e:=e) (size:=size) (madeCells z.cells (n*size)) n (Nat.zero_le _) (by unfold maxLen;omega) (size_madeCells _ _)
 have hz:=T.hzs
 have h0:=T.hsz
 rw [← hz] at h⊢
 rw [madeCells_flat _ _ (by omega)] at h
 exact h
theorem replicate_flatMap {T:Type}{f:T→List Value}(n:Nat)(x:T):(List.replicate n x).flatMap f=(List.replicate n (f x)).flatten:=by
 rw [List.flatMap,List.map_replicate]
theorem run_copy_sz {P:Program}(w:World)(dT sT ty elem:TypeId)(g o dLen dCap:Nat)(a:Addr)(sLen sCap:Nat)(cur:Array Value)(t:TypeId)(cs:List Value)(size n:Nat)
  (hu:P.underlying dT=some (.slice elem)) (hs:(P.info? elem).map (·.size)=some size)
  (hg:w.heap[g]?=some (.cells cur t (0,0))) (hn:n=Nat.min sLen dLen) (hcs:cs.length=n*size)
  (hsrc:∀j v,cs[j]?=some v→w.cell? (a.add j)=some v) (hfit:o+cs.length≤cur.size) (h1:∀v∈cs,v.oneCell'=true):
  (Builtin.copy_ #[dT,sT] ty #[.slice (some ⟨g,o,none⟩) dLen dCap,.slice (some a) sLen sCap]).run P w=
   .ok (goInt n) (w.setRow g (cur.toList.take o++cs++cur.toList.drop (o+cs.length)).toArray):=by
 have hl:=run_loadCells_list (P:=P) w a cs hsrc
 have hst:=run_storeCells_at P g o t cs 0 cur w hg (by simpa using hfit) h1
 cases hq:P.info? elem with
 |none=>simp [hq] at hs
 |some i=>
  have hi:i.size=size:=by simpa [hq] using hs
  rw [hcs] at hl
  subst hn
  simp [Builtin.copy_,run_underlying hu,Builtin.lenOf,Builtin.firstCells,sizeOf,typeInfo,hq,hi,hl,hst]
theorem wp_copy_sz {P:Program}{w:World}{o:Oper}{a:Act}{K:Act→World→Prop}{Q:Exit→Act→World→Prop}(d s:Operand)(dT sT:TypeId)
  (ho:o.op= .call {callee:= .builtin .copy,args:=#[d,s],argTypes:=#[dT,sT]}) (elem:TypeId) (size:Nat) (hu:P.underlying dT=some (.slice elem)) (hsz:(P.info? elem).map (·.size)=some size)
  (g off dLen dCap:Nat) (ad:Addr) (sLen sCap n:Nat) (hd:a.eval d= .slice (some ⟨g,off,none⟩) dLen dCap) (hs:a.eval s= .slice (some ad) sLen sCap)
  (cur:Array Value) (t:TypeId) (hg:w.heap[g]?=some (.cells cur t (0,0))) (cs:List Value) (hn:n=Nat.min sLen dLen) (hcs:cs.length=n*size)
  (hsrc:∀j v,cs[j]?=some v→w.cell? (ad.add j)=some v) (hfit:off+cs.length≤cur.size) (h1:∀v∈cs,v.oneCell'=true)
  (h:K (a.put o.dst (goInt n)) (w.setRow g (cur.toList.take off++(cs++cur.toList.drop (off+cs.length))).toArray)):o.wp P a w K Q:=by
 have hrun:=run_copy_sz (P:=P) w dT sT o.type elem g off dLen dCap ad sLen sCap cur t cs size n hu hsz hg hn hcs hsrc hfit h1
 unfold Oper.wp
 simp [execOp,ho,resolve,invoke,builtin,hd,hs,hrun,Result.andThen]
 exact h
theorem step_copy_sz {P:Program}{ops:Array Oper}{w:World}{o:Oper}{a:Act}{K:Act→World→Prop}{Q:Exit→Act→World→Prop}{E:Prop}(hgd:o.guard=none)(d s:Operand)(dT sT:TypeId)
  (ho:o.op= .call {callee:= .builtin .copy,args:=#[d,s],argTypes:=#[dT,sT]}) (elem:TypeId) (size:Nat) (hu:P.underlying dT=some (.slice elem)) (hsz:(P.info? elem).map (·.size)=some size)
  (g off dLen dCap:Nat) (ad:Addr) (sLen sCap n:Nat) (hd:a.eval d= .slice (some ⟨g,off,none⟩) dLen dCap) (hs:a.eval s= .slice (some ad) sLen sCap)
  (cur:Array Value) (t:TypeId) (hg:w.heap[g]?=some (.cells cur t (0,0))) (cs:List Value) (hn:n=Nat.min sLen dLen) (hcs:cs.length=n*size)
  (hsrc:∀j v,cs[j]?=some v→w.cell? (ad.add j)=some v) (hfit:off+cs.length≤cur.size) (h1:∀v∈cs,v.oneCell'=true)
  (h:K (a.put o.dst (goInt n)) (w.setRow g (cur.toList.take off++(cs++cur.toList.drop (off+cs.length))).toArray)):if Region.wanted o (yielded ops a.tmps)=true then Oper.wp P o a w K Q else E:=by
 have hw:Region.wanted o (yielded ops a.tmps)=true:=by simp [Region.wanted,hgd]
 rw [if_pos hw]
 exact wp_copy_sz d s dT sT ho elem size hu hsz g off dLen dCap ad sLen sCap n hd hs cur t hg cs hn hcs hsrc hfit h1 h
theorem grown_setRow (w:World)(g:Nat)(cs:Array Value):w.grownBy (w.setRow g cs) (some g):=
 ⟨rfl,rfl,rfl,by simp [World.setRow],fun k _ hk=>setRow_other w g k cs (fun e=>hk (by rw [e]))⟩
theorem step_copy_grown {P:Program}{ops:Array Oper}{w:World}{o:Oper}{a:Act}{K:Act→World→Prop}{Q:Exit→Act→World→Prop}{E:Prop}(hgd:o.guard=none)(d s:Operand)(dT sT:TypeId)
  (ho:o.op= .call {callee:= .builtin .copy,args:=#[d,s],argTypes:=#[dT,sT]}) (elem:TypeId) (size:Nat) (hu:P.underlying dT=some (.slice elem)) (hsz:(P.info? elem).map (·.size)=some size)
  (g off dLen dCap:Nat) (ad:Addr) (sLen sCap n:Nat) (hd:a.eval d= .slice (some ⟨g,off,none⟩) dLen dCap) (hs:a.eval s= .slice (some ad) sLen sCap)
  (cur:Array Value) (t:TypeId) (hg:w.heap[g]?=some (.cells cur t (0,0))) (cs:List Value) (hn:n=Nat.min sLen dLen) (hcs:cs.length=n*size)
  (hsrc:∀j v,cs[j]?=some v→w.cell? (ad.add j)=some v) (hfit:off+cs.length≤cur.size) (h1:∀v∈cs,v.oneCell'=true)
  (h:∀w',Hid (w'.heap[g]?=some (.cells (splice cur.toList off cs).toArray t (0,0)))→w.grownBy w' (some g)→K (a.put o.dst (goInt n)) w'):if Region.wanted o (yielded ops a.tmps)=true then Oper.wp P o a w K Q else E:=
 step_copy_sz hgd d s dT sT ho elem size hu hsz g off dLen dCap ad sLen sCap n hd hs cur t hg cs hn hcs hsrc hfit h1 (h _ (show _=_ by simpa [splice] using setRow_heap w g _ _ t _ hg) (grown_setRow w g _))
theorem flatMap_take {T:Type}{k:Nat}{f:T→List Value}(hf:∀x,(f x).length=k):∀(xs:List T) (n:Nat),(xs.flatMap f).take (n*k)=(xs.take n).flatMap f:=by
 intro xs
 induction xs with
 |nil=>intro n;simp
 |cons x l ih=>
  intro n
  cases n with
  |zero=>simp
  |succ n=>
   rw [List.take_succ_cons,List.flatMap_cons,List.flatMap_cons,List.take_append,hf x,← ih n]
   rw [List.take_of_length_le (by rw [hf];rw [Nat.add_mul];omega),show (n+1)*k - k=n*k by rw [Nat.add_mul];omega]
theorem flatMap_drop {T:Type}{k:Nat}{f:T→List Value}(hf:∀x,(f x).length=k):∀(xs:List T) (n:Nat),(xs.flatMap f).drop (n*k)=(xs.drop n).flatMap f:=by
 intro xs
 induction xs with
 |nil=>intro n;simp
 |cons x l ih=>
  intro n
  cases n with
  |zero=>simp
  |succ n=>
   rw [List.drop_succ_cons,List.flatMap_cons,List.drop_append,hf x,← ih n]
   rw [List.drop_of_length_le (by rw [hf];rw [Nat.add_mul];omega),show (n+1)*k - k=n*k by rw [Nat.add_mul];omega];simp
theorem flatMap_len {T:Type}{k:Nat}{f:T→List Value}(hf:∀x,(f x).length=k)(xs:List T):(xs.flatMap f).length=xs.length*k:=by
 induction xs with
 |nil=>simp
 |cons x l ih=>rw [List.flatMap_cons,List.length_append,ih,hf,List.length_cons,Nat.add_mul];omega
end
end Go.Proofs.YtinlmkhlgclbfabDoor
