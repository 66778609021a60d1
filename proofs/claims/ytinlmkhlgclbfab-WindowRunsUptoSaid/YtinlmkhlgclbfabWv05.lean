/- MailA to MemO -/
import Derived.Test.YtinlmkhlgclbfabWv02
import Derived.Test.YtinlmkhlgclbfabProg
namespace Go.Proofs.Ytinlmkhlgclbfab
open Go.RowKit
section
set_option maxRecDepth 100000
set_option maxHeartbeats 400000
theorem mailWithin (n a b:Int)(w:World):
  Calls Try.prog 98 #[.int .i64 n,.int .i64 a,.int .i64 b] w fun e w'=>e= .returned (.bool (inB a n b))∧w=w':=by
 go_enter Try.func98,Try.ntmps98
 go_wp2
 all_goals go_ret
 all_goals (unfold inB;simp [*]<;>omega)
theorem refBetween (n a b:Int)(w:World):
  Calls Try.prog 48 #[.int .i64 n,.int .i64 a,.int .i64 b] w fun e w'=>e= .returned (.bool (inB a n b))∧w=w':=by
 go_enter Try.func48,Try.ntmps48
 go_wp2
 all_goals go_ret
 all_goals (unfold inB;simp [*]<;>omega)
theorem mailValues1 (n:Int)(w:World):
  Calls Try.prog 130 #[.int .i64 n] w fun e w'=>e= .returned (.bool (badValue n))∧w=w':=by
 go_enter Try.func130,Try.ntmps130
 go_wp2_with (go_at_call 98;refine (mailWithin _ _ _ _).mono ?_;rintro e w' ⟨rfl,rfl⟩)
 go_ret
 exact ⟨rfl,rfl⟩
def Tells (P:Program) (f:FuncId) (cap:Array Value) (n:Nat) (val:Nat→Value) (p:Nat→Bool) (w:World):Prop:=
 ∀k,k < n→∀w',Below w.heap.size w w'→Calls P f (#[val k]++cap) w' fun e w''=>e= .returned (.bool (p k))∧Below w'.heap.size w' w''
theorem indexInt (xs:List Int)(A:Option Addr)(c:Nat)(f:FuncId)(cap:Array Value)(p:Nat→Bool)(B:Nat)(w:World)(hB:B≤w.heap.size)
   (hs:Sl cInt (Low B) w A c xs) (he:Enters Try.prog f) (hf:Tells Try.prog f cap xs.length (fun k=> .int .i64 (nth xs k)) p w):
    Calls Try.prog 142 #[.slice A xs.length c,.func (.func f) #[] cap] w fun e w'=>e= .returned (.int .i64 (findI xs.length p))∧Below w.heap.size w w':=by
  have hm:xs.length≤maxLen:=Nat.le_trans hs.cap hs.max
  unfold maxLen at hm
  unfold Enters at he
  go_enter Try.func142,Try.ntmps142
  go_wp2
  go_loopw [5,8] (fun _ i wr=>∃k:Nat,k≤xs.length∧i= .int .i64 k∧Hid (∀j,j < k→p j=false)∧Below w.heap.size w wr) (fun _ i _=>xs.length - (intOf i).toNat)
  case atStart=>exact ⟨0,Nat.zero_le _,rfl,fun j hj=>by omega,Below.refl _ _⟩
  case round=>
    obtain ⟨k,hk,rfl,hp,hbw⟩:=hrel
    by_cases hlt:k < xs.length
    · obtain ⟨b,o,rfl,hI,hcell⟩:=(hs.next hB hbw).at_int hlt
      go_wp2_with (refine (hf k hlt wr hbw).mono ?_;rintro e w1 ⟨rfl,hb1⟩)
      · have h1:p k=true:=by assumption
        go_ret
        rw [findI_hit hlt hp.out h1]
        exact ⟨rfl,hbw.trans (hb1.mono hbw.size)⟩
      · have h1:p k=false:=by assumption
        go_roundw
        case rel=>exact ⟨k+1,by omega,by go_num,fun j hj=>by
          by_cases e:j=k
          · subst e;exact h1
          · exact hp.out j (by omega),hbw.trans (hb1.mono hbw.size)⟩
        case measure=>simp [intOf];omega
    · go_wp2
      go_ret
      rw [findI_none fun j hj=>hp.out j (by omega)]
      exact ⟨rfl,hbw⟩
theorem containsInt (xs:List Int)(A:Option Addr)(c:Nat)(f:FuncId)(cap:Array Value)(p:Nat→Bool)(B:Nat)(w:World)(hB:B≤w.heap.size)
   (hs:Sl cInt (Low B) w A c xs) (he:Enters Try.prog f) (hf:Tells Try.prog f cap xs.length (fun k=> .int .i64 (nth xs k)) p w):
    Calls Try.prog 122 #[.slice A xs.length c,.func (.func f) #[] cap] w fun e w'=>e= .returned (.bool (anyI xs.length p))∧Below w.heap.size w w':=by
  have H:=zH (indexInt xs A c f cap p B w hB hs he hf)
  clear hs he hf
  go_enter Try.func122,Try.ntmps122
  go_wp2_with (go_at_call 142;refine H.out.mono ?_;rintro e w1 ⟨rfl,hb1⟩)
  go_ret
  exact ⟨ret_bool (by rw [← findI_any]),hb1⟩
theorem enters_mailValues1:Enters Try.prog 130:=fun _ _=>by kernel_rfl
theorem mailValues (xs:List Int)(A:Option Addr)(c:Nat)(B:Nat)(w:World)(hB:B≤w.heap.size)(hs:Sl cInt (Low B) w A c xs):
  Calls Try.prog 96 #[.slice A xs.length c] w fun e w'=>e= .returned (.bool (areValues xs))∧Below w.heap.size w w':=by
 have H:=zH (containsInt xs A c 130 #[] (fun j=>badValue (nth xs j)) B w hB hs enters_mailValues1
  (fun k _ w' _=>(mailValues1 _ w').mono fun e w'' h=>⟨h.1,by rw [← h.2];exact Below.refl _ _⟩))
 clear hs
 go_enter Try.func96,Try.ntmps96
 go_wp2_with (go_at_call 122;refine H.out.mono ?_;rintro e w1 ⟨rfl,hb1⟩)
 go_ret
 exact ⟨rfl,hb1⟩
theorem refAreValues (xs:List Int)(A:Option Addr)(c:Nat)(B:Nat)(w:World)(hB:B≤w.heap.size)(hs:Sl cInt (Low B) w A c xs):
  Calls Try.prog 56 #[.slice A xs.length c] w fun e w'=>e= .returned (.bool (areValues xs))∧w=w':=by
 have hm:xs.length≤maxLen:=Nat.le_trans hs.cap hs.max
 unfold maxLen at hm
 go_enter Try.func56,Try.ntmps56
 go_wp2
 go_loop [3] (fun i=>∃k:Nat,k≤xs.length∧i= .int .i64 k∧Hid (∀j,j < k→badValue (nth xs j)=false)) (fun i=>xs.length - (intOf i).toNat)
 case atStart=>exact ⟨0,Nat.zero_le _,rfl,fun j hj=>by omega⟩
 case round=>
  obtain ⟨k,hk,rfl,hp⟩:=hrel
  by_cases hlt:k < xs.length
  ·obtain ⟨b,o,rfl,hI,hcell⟩:=hs.at_int hlt
   go_wp2_with (go_at_call 48;refine (refBetween _ _ _ _).mono ?_;rintro e w' ⟨rfl,rfl⟩)
   ·have h1:inB 0 (nth xs k) 255=false:=by simpa using ‹(!inB 0 (nth xs k) 255)=true›
    go_ret
    refine ⟨ret_bool ?_,rfl⟩
    have h2:anyI xs.length (fun j=>badValue (nth xs j))=true:=anyI_true.2 ⟨k,hlt,by simp [badValue,h1]⟩
    simp [areValues,h2]
   ·have h1:inB 0 (nth xs k) 255=true:=by simpa using ‹(!inB 0 (nth xs k) 255)=false›
    go_round
    case rel=>exact ⟨k+1,by omega,by go_num,fun j hj=>by
     by_cases e:j=k
     ·subst e;simp [badValue,h1]
     ·exact hp.out j (by omega)⟩
    case measure=>simp [intOf];omega
  ·go_wp2
   go_ret
   have h2:anyI xs.length (fun j=>badValue (nth xs j))=false:=anyI_false.2 fun j hj=>hp.out j (by omega)
   exact ⟨ret_bool (by simp [areValues,h2]),rfl⟩
theorem mailCheck (vs:List Int)(lost size:Int)(A:Option Addr)(c:Nat)(B:Nat)(w:World)(hB:B≤w.heap.size)(hs:Sl cInt (Low B) w A c vs):
  Calls Try.prog 95 #[.agg #[.slice A vs.length c,.int .i64 lost],.int .i64 size] w fun e w'=>e= .returned (.int .i64 (checkRing vs lost size))∧Below w.heap.size w w':=by
 have hm:vs.length≤maxLen:=Nat.le_trans hs.cap hs.max
 unfold maxLen at hm
 have H:=fun W (h:Below w.heap.size w W)=>mailValues vs A c B W (Nat.le_trans hB h.size) (hs.next hB h)
 clear hs
 have hb0:Below w.heap.size w (w.alloc (.cells #[.slice A vs.length c,.int .i64 lost] 113)):=byB
 go_enter Try.func95,Try.ntmps95
 go_wp2_with (first|(go_at_call 98;refine (mailWithin _ _ _ _).mono ?_;rintro e w' ⟨rfl,rfl⟩)|(go_at_call 96;refine (H _ hb0).mono ?_;rintro e w1 ⟨rfl,hb1⟩;obtain ⟨hc1,hf1⟩:=bcell hb1))
 all_goals go_ret
 all_goals refine ⟨ret_int ?_,(by first|exact hb0|exact hb0.trans (hb1.mono hb0.size))⟩
 all_goals simp_all [checkRing]
theorem tyInt:TyS Try.prog 23 3 (.int .i64 0) 1 8:=⟨Try.underlying23,info_of (by kernel_rfl),rfl,by decide⟩
theorem refCheckRing (vs:List Int)(lost size:Int)(A:Option Addr)(c:Nat)(B:Nat)(w:World)(hB:B≤w.heap.size)(hs:Sl cInt (Low B) w A c vs):
  Calls Try.prog 55 #[.agg #[.slice A vs.length c,.int .i64 lost],.int .i64 size] w fun e w'=>e= .returned (.int .i64 (checkRing vs lost size))∧Below w.heap.size w w':=by
 have hm:vs.length≤maxLen:=Nat.le_trans hs.cap hs.max
 unfold maxLen at hm
 have H:=fun W (h:Below w.heap.size w W)=>refAreValues vs A c B W (Nat.le_trans hB h.size) (hs.next hB h)
 clear hs
 have hb0:Below w.heap.size w (w.alloc (.cells #[.slice A vs.length c,.int .i64 lost] 113)):=byB
 go_enter Try.func55,Try.ntmps55
 go_wp2_with (first|(go_at_call 48;refine (refBetween _ _ _ _).mono ?_;rintro e w' ⟨rfl,rfl⟩)|(go_at_call 56;refine (H _ hb0).mono ?_;rintro e w1 ⟨rfl,rfl⟩))
 all_goals go_ret
 all_goals refine ⟨ret_int ?_,hb0⟩
 all_goals simp_all [checkRing]
theorem refSameInts (xs ys:List Int)(A A':Option Addr)(c c':Nat)(B:Nat)(w:World)(hB:B≤w.heap.size)(hs:Sl cInt (Low B) w A c xs)(hs':Sl cInt (Low B) w A' c' ys):
  Calls Try.prog 103 #[.slice A xs.length c,.slice A' ys.length c'] w fun e w'=>e= .returned (.bool (decide (xs=ys)))∧Below w.heap.size w w':=by
 have hm:xs.length≤maxLen:=Nat.le_trans hs.cap hs.max
 have hm':ys.length≤maxLen:=Nat.le_trans hs'.cap hs'.max
 unfold maxLen at hm hm'
 by_cases hl:xs.length=ys.length
 ·have hlb:(((xs.length:Nat):Int) !=((ys.length:Nat):Int))=false:=by simp [hl]
  have HL:=zH hl
  clear hl
  go_enter Try.func103,Try.ntmps103
  go_wp2
  go_loopw [5] (fun i wr=>∃k:Nat,k≤xs.length∧i= .int .i64 k∧Hid (∀j,j < k→nth xs j=nth ys j)∧Below w.heap.size w wr) (fun i _=>xs.length - (intOf i).toNat)
  case atStart=>exact ⟨0,Nat.zero_le _,rfl,(fun j hj=>by omega),Below.refl _ _⟩
  case round=>
   obtain ⟨k,hk,rfl,hp,hbw⟩:=hrel
   by_cases hlt:k < xs.length
   ·have hlt':k < ys.length:=by have:=HL.out;omega
    obtain ⟨b,o,rfl,hI,hcell⟩:=(hs.next hB hbw).at_int hlt
    obtain ⟨b',o',rfl,hI',hcell'⟩:=(hs'.next hB hbw).at_int hlt'
    have h0:(0:Int)≤k:=by omega
    have h1:(k:Int) < xs.length:=by omega
    have h2:(k:Int) < ys.length:=by omega
    go_wp2_with fail
    go_quiet (fail)
    go_wp2
    ·have hne:(nth xs k !=nth ys k)=true:=by assumption
     go_ret
     refine ⟨ret_bool ?_,below_drewN hbw _⟩
     rw [eq_comm,decide_eq_false_iff_not]
     intro e;subst e;simp at hne
    ·have hne:(nth xs k !=nth ys k)=false:=by assumption
     go_roundw
     case rel=>exact ⟨k+1,by omega,by go_num,(fun j hj=>by
      by_cases e:j=k
      ·subst e;simpa using hne
      ·exact hp.out j (by omega)),below_drewN hbw _⟩
     case measure=>simp [intOf];omega
   ·go_wp2
    go_ret
    refine ⟨ret_bool ?_,hbw⟩
    rw [eq_comm,decide_eq_true_iff]
    refine List.ext_getElem HL.out fun j h1 h2=>?_
    rw [← nth_eq h1,← nth_eq h2]
    exact hp.out j (by omega)
 ·have hlb:(((xs.length:Nat):Int) !=((ys.length:Nat):Int))=true:=by simp;omega
  have HL:=zH hl
  clear hl
  go_enter Try.func103,Try.ntmps103
  go_wp2
  go_ret
  refine ⟨ret_bool ?_,Below.refl _ _⟩
  rw [eq_comm,decide_eq_false_iff_not]
  intro e
  exact HL.out (by rw [e])
theorem refSameRing (xs ys:List Int)(lx ly:Int)(A A':Option Addr)(c c':Nat)(B:Nat)(w:World)(hB:B≤w.heap.size)(hs:Sl cInt (Low B) w A c xs)(hs':Sl cInt (Low B) w A' c' ys):
  Calls Try.prog 104 #[.agg #[.slice A xs.length c,.int .i64 lx],.agg #[.slice A' ys.length c',.int .i64 ly]] w fun e w'=>e= .returned (.bool (decide (lx=ly)&&decide (xs=ys)))∧Below w.heap.size w w':=by
 have H:=fun W (h:Below w.heap.size w W)=>refSameInts xs ys A A' c c' B W (Nat.le_trans hB h.size) (hs.next hB h) (hs'.next hB h)
 clear hs hs'
 by_cases hl:lx=ly
 ·have hlb:(lx==ly)=true:=by simp [hl]
  have HL:=zH hl
  clear hl
  go_enter Try.func104,Try.ntmps104
  go_wp2_with (go_at_call 103;refine (H _ byB).mono ?_;rintro e w1 ⟨rfl,hb1⟩)
  go_ret
  refine ⟨ret_bool (by simp [HL.out]),?_⟩
  exact Below.trans byB (hb1.mono (by simp;omega))
 ·have hlb:(lx==ly)=false:=by simp [hl]
  have HL:=zH hl
  clear hl
  go_enter Try.func104,Try.ntmps104
  go_wp2
  go_ret
  exact ⟨ret_bool (by simp [HL.out]),byB⟩
def RetRow (e k n:Nat) (cells:List Value) (w:World) (en:Ending) (w':World):Prop:=∃A c,en= .returned (.slice A n c)∧w'.ownsRow w.heap.size e k (.slice A n c) n cells∧Below w.heap.size w w'
theorem cloneInt (xs:List Int)(A:Option Addr)(c:Nat)(B:Nat)(w:World)(hB:B≤w.heap.size)(hs:Sl cInt (Low B) w A c xs)(hb:xs.length*8≤140737488355328):
  Calls Try.prog 101 #[.slice A xs.length c] w (RetRow 3 1 xs.length (xs.flatMap fun n=>[Value.int .i64 n]) w):=by
 have hm:xs.length≤maxLen:=Nat.le_trans hs.cap hs.max
 cases A with
 |none=>
  have h0:xs=[]:=List.eq_nil_of_length_eq_zero (by have:=hs.nil rfl;have:=hs.cap;omega)
  subst h0
  have hq:=fun w=>Lib.run_eql_slice_nil (P:=Try.prog) w 23 3 none 0 c 0 0 Try.underlying23
  go_enter Try.func101,Try.ntmps101
  go_wp2
  go_ret
  exact ⟨_,_,rfl,World.ownsRow_nil _ _ _ _,Below.refl _ _⟩
 |some ad=>
  have hq:=fun w=>Lib.run_eql_slice_nil (P:=Try.prog) w 23 3 (some ad) xs.length c 0 0 Try.underlying23
  have hsrc1:=zH ((hs.next hB (w':=w.alloc (.cells #[] 3)) byB).src (f:=fun n=>[Value.int .i64 n]))
  clear hs
  have ho:=World.ownsRow_made w (base:=w.heap.size) (e:=3) (size:=1) #[] 0 (Nat.le_refl _) (by unfold maxLen;omega) rfl
  go_enter Try.func101,Try.ntmps101
  go_wp2_with (at_builtin;refine wpList_app rfl (.tmp 5) (.tmp 6) _ rfl w.heap.size tyInt _ 0 [] (by rfl) ho (some ad) xs.length c (xs.flatMap fun n=>[Value.int .i64 n]) (by rfl) hsrc1.out (one_int _) ?_ ?_ ?_ ?_;(omega);(omega);(simp);intro A1 c1 w1 hown1 hg1 hat1)
  go_ret
  simp only [Nat.zero_add,List.nil_append] at hown1
  exact ⟨A1,c1,by simp,hown1,grown_below byB (by simp) ho hg1⟩
theorem tyWay:TyS Try.prog 124 126 (.agg #[.int .i64 0,.bool false]) 2 16:=⟨Try.underlying124,info_of (by kernel_rfl),rfl,by decide⟩
theorem cloneWay (xs:List TWay)(A:Option Addr)(c:Nat)(B:Nat)(w:World)(hB:B≤w.heap.size)(hs:Sl cWay (Low B) w A c xs)(hb:xs.length*16≤140737488355328):
  Calls Try.prog 112 #[.slice A xs.length c] w (RetRow 126 2 xs.length (xs.flatMap TWay.cells) w):=by
 have hm:xs.length≤maxLen:=Nat.le_trans hs.cap hs.max
 cases A with
 |none=>
  have h0:xs=[]:=List.eq_nil_of_length_eq_zero (by have:=hs.nil rfl;have:=hs.cap;omega)
  subst h0
  have hq:=fun w=>Lib.run_eql_slice_nil (P:=Try.prog) w 124 126 none 0 c 0 0 Try.underlying124
  go_enter Try.func112,Try.ntmps112
  go_wp2
  go_ret
  exact ⟨_,_,rfl,World.ownsRow_nil _ _ _ _,Below.refl _ _⟩
 |some ad=>
  have hq:=fun w=>Lib.run_eql_slice_nil (P:=Try.prog) w 124 126 (some ad) xs.length c 0 0 Try.underlying124
  have hsrc1:=zH ((hs.next hB (w':=w.alloc (.cells #[] 126)) byB).src (f:=TWay.cells))
  clear hs
  have ho:=World.ownsRow_made w (base:=w.heap.size) (e:=126) (size:=2) #[] 0 (Nat.le_refl _) (by unfold maxLen;omega) rfl
  go_enter Try.func112,Try.ntmps112
  go_wp2_with (at_builtin;refine wpList_app rfl (.tmp 5) (.tmp 6) _ rfl w.heap.size tyWay _ 0 [] (by rfl) ho (some ad) xs.length c (xs.flatMap TWay.cells) (by rfl) hsrc1.out (one_way _) ?_ ?_ ?_ ?_;(omega);(omega);(simp);intro A1 c1 w1 hown1 hg1 hat1)
  go_ret
  simp only [Nat.zero_add,List.nil_append] at hown1
  exact ⟨A1,c1,by simp,hown1,grown_below byB (by simp) ho hg1⟩
end
section
theorem own_keep {w w':World}{base:Nat}{e:TypeId}{size:Nat}{v:Value}{n:Nat}{xs:List Value}(h:w.ownsRow base e size v n xs)(hk:∀b,v.ownBlock=some b→w'.heap[b]?=w.heap[b]?):w'.ownsRow base e size v n xs:=by
 obtain ⟨h1,h2⟩:=h
 refine ⟨h1,?_⟩
 rcases h2 with h2|⟨g,cap,cur,rfl,hb,hg,h3⟩
 ·exact Or.inl h2
 ·exact Or.inr ⟨g,cap,cur,rfl,hb,(hk g rfl).trans hg,h3⟩
theorem own_lt {w:World}{base:Nat}{e:TypeId}{size:Nat}{v:Value}{n:Nat}{xs:List Value}(h:w.ownsRow base e size v n xs):∀b,v.ownBlock=some b→base≤b∧b < w.heap.size:=by
 intro b hb
 obtain ⟨_,h2⟩:=h
 rcases h2 with ⟨rfl,_⟩|⟨g,cap,cur,rfl,hbb,hg,_⟩
 ·cases hb
 ·cases hb
  exact ⟨hbb,(Array.getElem?_eq_some_iff.1 hg).1⟩
theorem KeepI.grown {I:Nat→Prop}{w v w':World}{row:Option Nat}(h:KeepI I w v)(hg:v.grownBy w' row)(hI:∀k,I k→k < v.heap.size∧row≠some k):KeepI I w w':=
 fun k hk=>(hg.block k (hI k hk).1 (Ne.symm (hI k hk).2)).trans (h k hk)
end
end Go.Proofs.Ytinlmkhlgclbfab
