/- WinB OwnZ -/
import Derived.Test.YtinlmkhlgclbfabWv07
import Derived.Test.YtinlmkhlgclbfabWv09
namespace Go.Proofs.Ytinlmkhlgclbfab
open Go.RowKit
section
set_option maxRecDepth 100000
set_option maxHeartbeats 4000000
theorem spendK_len (k:List (List TWay))(a:TAct):(spendK k a).length=k.length:=by unfold spendK accessOf;split<;>simp
theorem windowSpend (k:List (List TWay))(ok:CacheOk k)(a:TAct)(ha:ActOk a)(A:Option Addr)(n:Nat)(F:Nat→Prop)(w:World)(hO:OCache F w (.slice A k.length n) k)(hF:∀b,F b→b < w.heap.size):
  Calls Try.prog 66 #[.agg #[.slice A k.length n],.agg #[.int .i64 a.kind,.int .i64 a.n,.int .i64 a.value]] w fun e w'=>e= .returned (.int .i64 (spendN k a))∧OCache F w' (.slice A k.length n) (spendK k a)∧Only F w w':=by
 by_cases hm:isMem a=true
 ·have hm':=hm
  simp only [isMem,Bool.or_eq_true,decide_eq_true_eq] at hm'
  have hl:=ha.line hm'
  have R1:spendN k a=accessCost k a.n:=by unfold spendN;rw [if_pos hm]
  have R2:spendK k a=accessOf k a.n (decide (a.kind=3)):=by unfold spendK;rw [if_pos hm]
  rw [R1,R2]
  have HT:=zH (fun W (h:Below w.heap.size w W)=>cacheTouch k ok a.n (decide (a.kind=3)) hl.1 hl.2 A n F W (hO.keep fun b hb=>h.block b (hF b hb)) (fun b hb=>Nat.lt_of_lt_of_le (hF b hb) h.size))
  clear R1 R2 hO hm ha
  rcases hm' with h2|h3
  ·rw [h2,show decide ((2:Int)=3)=false by decide] at HT
   rw [h2,show decide ((2:Int)=3)=false by decide]
   have b1:((2:Int)==2)=true:=by decide
   clear h2
   go_enter Try.func66,Try.ntmps66
   go_wp2_with fail
   go_at_call 113
   refine (HT.out _ byB).mono ?_
   rintro e w1 ⟨rfl,hO1,hE1⟩
   have hb:Below w.heap.size w ((w.alloc (.cells #[.slice A k.length n] 63)).alloc (.cells #[.int .i64 2,.int .i64 a.n,.int .i64 a.value] 65)):=byB
   have hE:Only F w w1:=(Only.below hb).trans hE1
   replace hO1:=zH hO1
   replace hE:=zH hE
   clear hE1
   go_wp2_with fail
   go_ret
   exact ⟨rfl,hO1.out,hE.out⟩
  ·rw [h3,show decide ((3:Int)=3)=true by decide] at HT
   rw [h3,show decide ((3:Int)=3)=true by decide]
   clear h3
   go_enter Try.func66,Try.ntmps66
   go_wp2_with fail
   go_at_call 113
   refine (HT.out _ byB).mono ?_
   rintro e w1 ⟨rfl,hO1,hE1⟩
   have hb:Below w.heap.size w ((w.alloc (.cells #[.slice A k.length n] 63)).alloc (.cells #[.int .i64 3,.int .i64 a.n,.int .i64 a.value] 65)):=byB
   have hE:Only F w w1:=(Only.below hb).trans hE1
   replace hO1:=zH hO1
   replace hE:=zH hE
   clear hE1
   go_wp2_with fail
   go_ret
   exact ⟨rfl,hO1.out,hE.out⟩
 ·have R1:spendN k a=worstA a:=by unfold spendN;rw [if_neg hm]
  have R2:spendK k a=k:=by unfold spendK;rw [if_neg hm]
  rw [R1,R2]
  have hm':a.kind≠2∧a.kind≠3:=by
   simp only [isMem,Bool.or_eq_true,decide_eq_true_eq] at hm
   omega
  have HW:=zH (fun W=>windowWorst a W)
  have b1:(a.kind==2)=false:=by simp [hm'.1]
  have b2:(a.kind==3)=false:=by simp [hm'.2]
  have hOk:=zH (fun W (h:Below w.heap.size w W)=>(hO.keep fun b hb=>h.block b (hF b hb):OCache F W (.slice A k.length n) k))
  clear R1 R2 hO hm hm' ha ok
  go_enter Try.func66,Try.ntmps66
  go_wp2_with fail
  go_at_call 67
  refine (HW.out _).mono ?_
  rintro e w1 ⟨rfl,hb1⟩
  have h1:Below w.heap.size w w1:=byB
  go_wp2_with fail
  go_ret
  exact ⟨rfl,hOk.out _ h1,Only.below h1⟩
def costErr (k:List (List TWay)) (a:TAct):Int:=if checkCache k≠0 then checkCache k else actErr a
def costRes (k:List (List TWay)) (a:TAct):List (List TWay):=if costErr k a=0 then spendK k a else []
def costN (k:List (List TWay)) (a:TAct):Int:=if costErr k a=0 then spendN k a else 0
theorem windowCost (k:List (List TWay))(a:TAct)(A:Option Addr)(n B:Nat)(w:World)(hB:B≤w.heap.size)(hs:Sl cWay.slice (Low B) w A n k):
  Calls Try.prog 24 #[.agg #[.slice A k.length n],.agg #[.int .i64 a.kind,.int .i64 a.n,.int .i64 a.value]] w (RetCacheIE (costRes k a) (costN k a) (costErr k a) w):=by
 have H1:=zH (fun W (h:Below w.heap.size w W)=>cacheCheck k A n B W (Nat.le_trans hB h.size) (hs.next hB h))
 have H2:=zH (fun W=>windowRight a W)
 by_cases e1:checkCache k=0
 ·have ok:=checkCache_ok.1 e1
  rw [e1] at H1
  by_cases e2:actErr a=0
  ·have ha:=actErr_zero.1 e2
   have R:costErr k a=0:=by unfold costErr;rw [if_neg (by simp [e1]),e2]
   have R2:costRes k a=spendK k a:=by unfold costRes;rw [if_pos R]
   have R3:costN k a=spendN k a:=by unfold costN;rw [if_pos R]
   rw [R,R2,R3]
   rw [e2] at H2
   have h4:=ok.h4
   have H3:=zH (fun W (h:Below w.heap.size w W)=>cacheOwn k A n B W (Nat.le_trans hB h.size) (hs.next hB h) (by omega) (fun i hi=>by have:=ok.w3;rw [ok.same i hi];omega))
   have H4:=zH (fun A1 n1 F W (hO:OCache F W (.slice A1 k.length n1) k) (hF:∀b,F b→b < W.heap.size)=>windowSpend k ok a ha A1 n1 F W hO hF)
   have HL:=zH (spendK_len k a)
   clear R R2 R3 e1 e2 hs ok ha
   go_enter Try.func24,Try.ntmps24
   go_wp2_with fail
   (go_at_call 63;refine (H1.out _ byB).mono ?_;rintro e w1 ⟨rfl,hb_w1⟩;refine kbb (show w1.heap[w.heap.size]?=some (.cells #[.slice A k.length n] 63) from (hb_w1.block _ byS).trans byH) (fun c_w1 cc_w1 fc_w1 zc_w1=>?_);refine kbb (show w1.heap[w.heap.size+1]?=some (.cells #[.int .i64 a.kind,.int .i64 a.n,.int .i64 a.value] 65) from (hb_w1.block _ byS).trans byH) (fun a_w1 ca_w1 fa_w1 za_w1=>?_);refine kbb (show w1.heap[w.heap.size+2]?=some (.cells #[.slice none 0 0] 63) from (hb_w1.block _ byS).trans byH) (fun r_w1 cr_w1 fr_w1 zr_w1=>?_);refine armT w hb_w1 (fun h_w1 s_w1 t_w1 hb_w1=>?_);(try simp at t_w1))
   go_wp2_with fail
   (go_at_call 64;refine (H2.out _).mono ?_;rintro e w2 ⟨rfl,hb_w2⟩;refine kbb (kb c_w1 hb_w2) (fun c_w2 cc_w2 fc_w2 zc_w2=>?_);refine kbb (kb a_w1 hb_w2) (fun a_w2 ca_w2 fa_w2 za_w2=>?_);refine kbb (kb r_w1 hb_w2) (fun r_w2 cr_w2 fr_w2 zr_w2=>?_);refine armT w hb_w2 (fun h_w2 s_w2 t_w2 hb_w2=>?_);(try simp at t_w2);clear c_w1 cc_w1 fc_w1 a_w1 ca_w1 fa_w1 r_w1 cr_w1 fr_w1)
   go_wp2_with fail
   (go_at_call 65;refine (H3.out _ byB).mono ?_;rintro e w3 ⟨A3,n3,rfl,hO3,hb_w3⟩;refine kbb (kb c_w2 hb_w3) (fun c_w3 cc_w3 fc_w3 zc_w3=>?_);refine kbb (kb a_w2 hb_w3) (fun a_w3 ca_w3 fa_w3 za_w3=>?_);refine kbb (kb r_w2 hb_w3) (fun r_w3 cr_w3 fr_w3 zr_w3=>?_);refine armT w hb_w3 (fun h_w3 s_w3 t_w3 hb_w3=>?_);(try simp at t_w3);clear c_w2 cc_w2 fc_w2 a_w2 ca_w2 fa_w2 r_w2 cr_w2 fr_w2)
   have hO3:OCache (Rng (w.heap.size+3) w3.heap.size) w3 (.slice A3 k.length n3) k:=OSl.mono hO3 (fun b hb=>⟨by have:=hb.1;(try simp at this);omega,hb.2⟩)
   have HS:=H4.out A3 n3 (Rng (w.heap.size+3) w3.heap.size) (w3.alloc (.cells #[.slice A3 k.length n3] 63)) (OSl.keep hO3 fun b hb=>heap_alloc_old _ _ hb.2) (fun b hb=>by have:=hb.2;simp;omega)
   have hr4:(w3.alloc (.cells #[.slice A3 k.length n3] 63)).heap[w.heap.size+2]?=some (.cells #[.slice none 0 0] 63):=(heap_alloc_old _ _ zr_w3).trans r_w3
   have hk4:(w3.alloc (.cells #[.slice A3 k.length n3] 63)).heap[w3.heap.size]?=some (.cells #[.slice A3 k.length n3] 63):=heap_alloc_new _ _
   have h4:Below w.heap.size w (w3.alloc (.cells #[.slice A3 k.length n3] 63)):=byB
   replace HS:=zH HS
   replace hr4:=zH hr4
   replace hk4:=zH hk4
   replace h4:=zH h4
   clear hO3
   go_wp2_with fail
   go_at_call 66
   refine HS.out.mono ?_
   rintro e w4 ⟨rfl,hO4,hE4⟩
   have hr5:=(hE4.block _ (by simp;omega) (fun h=>by have:=h.1;omega)).trans hr4.out
   have hk5:=(hE4.block _ (by simp) (fun h=>by have:=h.2;omega)).trans hk4.out
   have h5:Below w.heap.size w w4:=h4.out.trans (hE4.toBelow h4.out.size (fun b hb=>by have:=hb.1;omega))
   have z4:=hE4.size
   simp at z4
   obtain ⟨cr5,fr5,zr5⟩:=blk hr5
   obtain ⟨ck5,fk5,zk5⟩:=blk hk5
   replace hO4:=zH hO4
   clear hE4
   go_wp2_with fail
   refine bodyPost_ret (v:= .tuple #[.agg #[.slice A3 k.length n3],.int .i64 (spendN k a),.int .i64 0]) (by simp [results,Try.results24,go_sem, *]) rfl ?_
   refine ⟨A3,n3,by rw [HL.out],?_,Below.setCell h5 (by show w.heap.size≤w.heap.size+1+1;omega) _⟩
   rw [HL.out]
   exact OSl.mono (OSl.keep hO4.out fun b hb=>Below.heap_setCell _ _ _ _ (by have:=hb.1;simp;omega)) (fun b hb=>⟨by have:=hb.1;omega,by have:=hb.2;simp;omega⟩)
  ·have R:costErr k a=actErr a:=by unfold costErr;rw [if_neg (by simp [e1])]
   have R2:costRes k a=[]:=by unfold costRes;rw [if_neg (by rw [R];exact e2)]
   have R3:costN k a=0:=by unfold costN;rw [if_neg (by rw [R];exact e2)]
   rw [R,R2,R3]
   have b2:(actErr a !=0)=true:=by simp [e2]
   clear R R2 R3 e1 e2 hs ok
   generalize actErr a=AE at*
   go_enter Try.func24,Try.ntmps24
   go_wp2_with fail
   (go_at_call 63;refine (H1.out _ byB).mono ?_;rintro e w1 ⟨rfl,hb_w1⟩;refine kbb (show w1.heap[w.heap.size]?=some (.cells #[.slice A k.length n] 63) from (hb_w1.block _ byS).trans byH) (fun c_w1 cc_w1 fc_w1 zc_w1=>?_);refine kbb (show w1.heap[w.heap.size+1]?=some (.cells #[.int .i64 a.kind,.int .i64 a.n,.int .i64 a.value] 65) from (hb_w1.block _ byS).trans byH) (fun a_w1 ca_w1 fa_w1 za_w1=>?_);refine kbb (show w1.heap[w.heap.size+2]?=some (.cells #[.slice none 0 0] 63) from (hb_w1.block _ byS).trans byH) (fun r_w1 cr_w1 fr_w1 zr_w1=>?_);refine armT w hb_w1 (fun h_w1 s_w1 t_w1 hb_w1=>?_);(try simp at t_w1))
   go_wp2_with fail
   (go_at_call 64;refine (H2.out _).mono ?_;rintro e w2 ⟨rfl,hb_w2⟩;refine kbb (kb c_w1 hb_w2) (fun c_w2 cc_w2 fc_w2 zc_w2=>?_);refine kbb (kb a_w1 hb_w2) (fun a_w2 ca_w2 fa_w2 za_w2=>?_);refine kbb (kb r_w1 hb_w2) (fun r_w2 cr_w2 fr_w2 zr_w2=>?_);refine armT w hb_w2 (fun h_w2 s_w2 t_w2 hb_w2=>?_);(try simp at t_w2);clear c_w1 cc_w1 fc_w1 a_w1 ca_w1 fa_w1 r_w1 cr_w1 fr_w1)
   go_wp2_with fail
   refine bodyPost_ret (v:= .tuple #[.agg #[.slice none 0 0],.int .i64 0,.int .i64 AE]) (by simp [results,Try.results24,go_sem, *]) rfl ?_
   exact ⟨none,0,rfl,ocache_nil _ _,byB⟩
 ·have R:costErr k a=checkCache k:=by unfold costErr;rw [if_pos e1]
  have R2:costRes k a=[]:=by unfold costRes;rw [if_neg (by rw [R];exact e1)]
  have R3:costN k a=0:=by unfold costN;rw [if_neg (by rw [R];exact e1)]
  rw [R,R2,R3]
  have b1:(checkCache k==0)=false:=by simp [e1]
  have b2:(checkCache k !=0)=true:=by simp [e1]
  clear R R2 R3 e1 hs H2
  generalize checkCache k=CE at*
  go_enter Try.func24,Try.ntmps24
  go_wp2_with fail
  (go_at_call 63;refine (H1.out _ byB).mono ?_;rintro e w1 ⟨rfl,hb_w1⟩;refine kbb (show w1.heap[w.heap.size]?=some (.cells #[.slice A k.length n] 63) from (hb_w1.block _ byS).trans byH) (fun c_w1 cc_w1 fc_w1 zc_w1=>?_);refine kbb (show w1.heap[w.heap.size+1]?=some (.cells #[.int .i64 a.kind,.int .i64 a.n,.int .i64 a.value] 65) from (hb_w1.block _ byS).trans byH) (fun a_w1 ca_w1 fa_w1 za_w1=>?_);refine kbb (show w1.heap[w.heap.size+2]?=some (.cells #[.slice none 0 0] 63) from (hb_w1.block _ byS).trans byH) (fun r_w1 cr_w1 fr_w1 zr_w1=>?_);refine armT w hb_w1 (fun h_w1 s_w1 t_w1 hb_w1=>?_);(try simp at t_w1))
  go_wp2_with fail
  refine bodyPost_ret (v:= .tuple #[.agg #[.slice none 0 0],.int .i64 0,.int .i64 CE]) (by simp [results,Try.results24,go_sem, *]) rfl ?_
  exact ⟨none,0,rfl,ocache_nil _ _,byB⟩
end
section
def ownsZ (w:World) (E:TypeId) (size:Nat) (v:Value) (n:Nat) (xs:List Value):Prop:=w.ownsRow 0 E size v n xs∨(n=0∧xs=[]∧∃a,v= .slice (some a) 0 0)
def rowZ:Value→Option Nat
 | .slice (some a) _ (_+1)=>some a.block
 |_=>none
theorem rowZ_own {v:Value}{b:Nat}(h:rowZ v=some b):v.ownBlock=some b:=by
 unfold rowZ at h
 split at h
 ·simpa [Value.ownBlock] using h
 ·cases h
theorem rowZ_pos {a:Addr}{n c:Nat}(h:0 < c):rowZ (.slice (some a) n c)=some a.block:=by
 obtain ⟨c',rfl⟩:∃c',c=c'+1:=⟨c - 1,by omega⟩
 rfl
theorem rowZ_zero {A:Option Addr}{n:Nat} :rowZ (.slice A n 0)=none:=by cases A<;>rfl
theorem ownsZ.of {w:World}{base:Nat}{E:TypeId}{size:Nat}{v:Value}{n:Nat}{xs:List Value}(h:w.ownsRow base E size v n xs):ownsZ w E size v n xs:= .inl (own_mono h (Nat.zero_le _))
theorem ownZ_form {w:World}{E:TypeId}{size:Nat}{v:Value}{n:Nat}{xs:List Value}(h:ownsZ w E size v n xs):
  ∃A c,v= .slice A n c∧n≤c∧c≤maxLen∧(A=none→c=0)∧xs.length=n*size∧((n=0∧c=0∧rowZ v=none)∨∃g,A=some ⟨g,0,none⟩∧0 < c∧rowZ v=some g∧g < w.heap.size∧CellsAt w g 0 xs∧w.ownsRow 0 E size v n xs):=by
 rcases h with h|⟨rfl,rfl,a,rfl⟩
 ·obtain ⟨A,c,rfl,h1,h2,h3,h4,h5⟩:=own_form h
  refine ⟨A,c,rfl,h1,h2,h3,h4,?_⟩
  rcases Nat.eq_zero_or_pos c with h0|h0
  ·exact .inl ⟨by omega,h0,by subst h0;exact rowZ_zero⟩
  ·rcases h5 with ⟨_,_,h5⟩|⟨g,rfl,_,h6,h7⟩
   ·omega
   ·exact .inr ⟨g,rfl,h0,rowZ_pos h0,h6,h7,h⟩
 ·exact ⟨some a,0,rfl,Nat.le_refl _,Nat.zero_le _,fun h=>(by cases h),by simp,.inl ⟨rfl,rfl,rowZ_zero⟩⟩
theorem ownZ_keep {w w':World}{E:TypeId}{size:Nat}{v:Value}{n:Nat}{xs:List Value}(h:ownsZ w E size v n xs)(hk:∀b,rowZ v=some b→w'.heap[b]?=w.heap[b]?):ownsZ w' E size v n xs:=by
 obtain ⟨A,c,rfl,h1,h2,h3,h4,h5⟩:=ownZ_form h
 rcases h5 with ⟨rfl,rfl,_⟩|⟨g,rfl,h0,hr,_,_,ho⟩
 ·have hx:xs=[]:=List.eq_nil_of_length_eq_zero (by simpa using h4)
  subst hx
  cases A with
  |none=>exact .inl ⟨by simp,.inl ⟨rfl,rfl⟩⟩
  |some a=>exact .inr ⟨rfl,rfl,a,rfl⟩
 ·exact .inl (own_keep ho fun b hb=>hk b (by rw [hr];exact hb))
theorem ownZ_lt {w:World}{E:TypeId}{size:Nat}{v:Value}{n:Nat}{xs:List Value}(h:ownsZ w E size v n xs):∀b,rowZ v=some b→b < w.heap.size:=by
 intro b hb
 obtain ⟨A,c,rfl,h1,h2,h3,h4,h5⟩:=ownZ_form h
 rcases h5 with ⟨rfl,rfl,h6⟩|⟨g,rfl,h0,hr,hg,_,ho⟩
 ·rw [h6] at hb;cases hb
 ·rw [hr] at hb;injection hb with hb;omega
theorem ownsZ.nil (w:World)(E:TypeId)(size:Nat):ownsZ w E size (.slice none 0 0) 0 []:= .inl ⟨by simp,.inl ⟨rfl,rfl⟩⟩
theorem ownsZ.room (w:World)(E:TypeId)(size:Nat)(A:Option Addr):ownsZ w E size (.slice A 0 0) 0 []:=by
 cases A with
 |none=>exact ownsZ.nil w E size
 |some a=>exact .inr ⟨rfl,rfl,a,rfl⟩
theorem ownZ_set {w:World}{E:TypeId}{size g:Nat}{n c:Nat}{xs:List Value}(h:ownsZ w E size (.slice (some ⟨g,0,none⟩) n c) n xs){j:Nat}(hj:j < xs.length)(u:Value):
  ownsZ (w.setCell ⟨g,j,none⟩ u) E size (.slice (some ⟨g,0,none⟩) n c) n (xs.set j u):=by
 rcases h with h|⟨_,rfl,_⟩
 ·obtain ⟨hl,h⟩:=h
  rcases h with ⟨hv,_⟩|⟨g',cap,cur,hv,hb,hg,hn,hm,hcs,ht⟩
  ·cases hv
  ·injection hv with e1 e2 e3
   injection e1 with e1;injection e1 with e1
   subst e1;subst e3
   have hjc:j < cur.size:=by
    have h1:xs.length≤cur.toList.length:=by rw [← ht,List.length_take];omega
    simpa using (by omega:j < cur.toList.length)
   refine .inl ⟨by simpa using hl,.inr ⟨g,c,cur.setIfInBounds j u,rfl,hb,heap_set_same hg,hn,hm,by simpa using hcs,?_⟩⟩
   rw [Array.toList_setIfInBounds,List.take_set,ht]
 ·simp at hj
def OZl {T:Type} (e:OCod T) (E:TypeId) (F:Nat→Prop) (w:World) (v:Value) (xs:List T):Prop:=
 ∃(ess:List (List Value)) (G:Nat→Nat→Prop),ess.length=xs.length∧ownsZ w E e.cod.size v xs.length ess.flatten∧(∀b,rowZ v=some b→F b)∧
  (∀i es x,ess[i]?=some es→xs[i]?=some x→e.rel (G i) w es x)∧(∀i b,G i b→F b∧rowZ v≠some b)∧(∀i j b,i≠j→G i b→¬ G j b)
theorem OZl.keep {T:Type}{e:OCod T}{E:TypeId}{F:Nat→Prop}{w w':World}{v:Value}{xs:List T}(h:OZl e E F w v xs)(hk:∀b,F b→w'.heap[b]?=w.heap[b]?):OZl e E F w' v xs:=by
 obtain ⟨ess,G,h1,h2,h3,h4,h5,h6⟩:=h
 exact ⟨ess,G,h1,ownZ_keep h2 fun b hb=>hk b (h3 b hb),h3,fun i es x hi hx=>e.keep (h4 i es x hi hx) fun b hb=>hk b (h5 i b hb).1,h5,h6⟩
theorem OZl.keepI {T:Type}{e:OCod T}{E:TypeId}{F:Nat→Prop}{w w':World}{v:Value}{xs:List T}(h:OZl e E F w v xs)(hk:KeepI F w w'):OZl e E F w' v xs:=h.keep hk
theorem OZl.mono {T:Type}{e:OCod T}{E:TypeId}{F G:Nat→Prop}{w:World}{v:Value}{xs:List T}(h:OZl e E F w v xs)(hk:∀b,F b→G b):OZl e E G w v xs:=by
 obtain ⟨ess,G',h1,h2,h3,h4,h5,h6⟩:=h
 exact ⟨ess,G',h1,h2,fun b hb=>hk b (h3 b hb),h4,fun i b hb=>⟨hk b (h5 i b hb).1,(h5 i b hb).2⟩,h6⟩
theorem OZl.nil {T:Type}(e:OCod T)(E:TypeId)(F:Nat→Prop)(w:World):OZl e E F w (.slice none 0 0) []:=
 ⟨[],fun _ _=>False,rfl,ownsZ.nil _ _ _,(fun b hb=>by cases hb),(fun i es x hi=>by simp at hi),fun _ _ h=>h.elim,fun _ _ _ _ h=>h.elim⟩
theorem OZl.form {T:Type}{e:OCod T}{E:TypeId}{F:Nat→Prop}{w:World}{v:Value}{xs:List T}(h:OZl e E F w v xs):∃A c,v= .slice A xs.length c:=by
 obtain ⟨ess,G,h1,h2,_⟩:=h
 obtain ⟨A,c,hv,_⟩:=ownZ_form h2
 exact ⟨A,c,hv⟩
theorem OZl.read {T:Type}{e:OCod T}{E:TypeId}{F:Nat→Prop}{w:World}{A:Option Addr}{n c:Nat}{xs:List T}(h:OZl e E F w (.slice A n c) xs):Sl e.cod F w A c xs:=by
 obtain ⟨ess,G,h1,h2,h3,h4,h5,h6⟩:=h
 have hlen:=ess_len h1 h4
 obtain ⟨A',c',hv,hn,hm,hnil,_,hcase⟩:=ownZ_form h2
 injection hv with e1 e2 e3
 subst e1;subst e3
 refine ⟨hn,hm,hnil,fun i hi=>?_⟩
 rcases hcase with ⟨h0,_,_⟩|⟨g,rfl,_,hr,_,hc,_⟩
 ·omega
 ·have hi':i < ess.length:=by omega
  refine ⟨g,0,ess[i],rfl,h3 g hr,e.cod.mono (e.toRead (h4 i ess[i] xs[i] (List.getElem?_eq_getElem hi') (List.getElem?_eq_getElem hi))) fun b hb=>(h5 i b hb).1,fun j u hu=>?_⟩
  have:=hc (i*e.cod.size+j) u (flatten_slot ess i ess[i] hlen (List.getElem?_eq_getElem hi') j u hu)
  rwa [show 0+i*e.cod.size+j=0+(i*e.cod.size+j) by omega]
def OCod.sliceZ {T:Type} (E:TypeId) (e:OCod T):OCod (List T) where
 cod:=e.cod.slice
 rel:=fun F w cs xs=>∃v,cs=[v]∧OZl e E F w v xs
 toRead:=fun {F w cs x} ⟨v,h,hs⟩=>by
  obtain ⟨A,c,rfl⟩:=hs.form
  exact ⟨A,c,h,hs.read⟩
 keep:=fun ⟨v,h,hs⟩ hk=>⟨v,h,hs.keep hk⟩
 mono:=fun ⟨v,h,hs⟩ hk=>⟨v,h,hs.mono hk⟩
theorem ozl_flat {T:Type}{k:Nat}{f:T→List Value}{hf:∀x,(f x).length=k}{E:TypeId}{F:Nat→Prop}{w:World}{v:Value}{xs:List T} :
  OZl (OCod.flat k f hf) E F w v xs↔ownsZ w E k v xs.length (xs.flatMap f)∧∀b,rowZ v=some b→F b:=by
 constructor
 ·rintro ⟨ess,G,h1,h2,h3,h4,_⟩
  have:ess=xs.map f:=by
   refine List.ext_getElem? fun i=>?_
   rcases Nat.lt_or_ge i xs.length with hi|hi
   ·have hi':i < ess.length:=by omega
    have:=h4 i ess[i] xs[i] (List.getElem?_eq_getElem hi') (List.getElem?_eq_getElem hi)
    rw [List.getElem?_eq_getElem hi',List.getElem?_map,List.getElem?_eq_getElem hi]
    exact congrArg some this
   ·rw [List.getElem?_eq_none (by omega),List.getElem?_eq_none (by simpa using hi)]
  subst this
  rw [List.flatMap]
  exact ⟨h2,h3⟩
 ·rintro ⟨h2,h3⟩
  refine ⟨xs.map f,fun _ _=>False,by simp,by rw [← List.flatMap];exact h2,h3,fun i es x hi hx=>?_,fun _ _ h=>h.elim,fun _ _ _ _ h=>h.elim⟩
  rw [List.getElem?_map,hx] at hi
  simp at hi
  exact hi.symm
theorem ozl_app {T:Type}{e:OCod T}{E:TypeId}{F Fx F':Nat→Prop}{w w':World}{v v':Value}{xs:List T}{x:T}{ess:List (List Value)}{G:Nat→Nat→Prop}{es:List Value}
  (h1:ess.length=xs.length) (h4:∀i es x,ess[i]?=some es→xs[i]?=some x→e.rel (G i) w es x) (h5:∀i b,G i b→F b∧rowZ v≠some b) (h6:∀i j b,i≠j→G i b→¬ G j b)
  (hx:e.rel Fx w es x) (hd:∀b,F b→¬ Fx b) (hlt:∀b,F b∨Fx b→b < w.heap.size) (h3:∀b,rowZ v=some b→F b)
  (hown:ownsZ w' E e.cod.size v' (xs.length+1) (ess.flatten++es)) (hg:w.grownBy w' (rowZ v)) (hat:∀b,rowZ v'=some b→rowZ v=some b∨b=w.heap.size)
  (hF:∀b,F b∨Fx b→F' b) (hF':∀b,rowZ v'=some b→F' b):OZl e E F' w' v' (xs++[x]):=by
 have hne:∀b,F b∨Fx b→rowZ v≠some b→rowZ v'≠some b:=by
  intro b hb hv e1
  rcases hat b e1 with e1|e1
  ·exact hv e1
  ·have:=hlt b hb;omega
 have hxv:∀b,Fx b→rowZ v≠some b:=fun b hb e1=>hd b (h3 b e1) hb
 refine ⟨ess++[es],fun i=>if i=xs.length then Fx else if i < xs.length then G i else fun _=>False,by simp [h1],by simpa using hown,hF',fun i es' x' hi hx'=>?_,fun i b hb=>?_,fun i j b hij hi hj=>?_⟩
 ·dsimp only
  by_cases e1:i=xs.length
  ·subst e1
   rw [if_pos rfl]
   rw [← h1,List.getElem?_append_right (Nat.le_refl _)] at hi
   rw [List.getElem?_append_right (Nat.le_refl _)] at hx'
   simp at hi hx'
   subst hi;subst hx'
   exact e.keep hx fun b hb=>hg.block b (hlt b (.inr hb)) (Ne.symm (hxv b hb))
  ·have hi':i < xs.length:=by have:=(List.getElem?_eq_some_iff.1 hx').1;simp at this;omega
   rw [if_neg e1,if_pos hi']
   rw [List.getElem?_append_left (by omega)] at hi hx'
   exact e.keep (h4 i es' x' hi hx') fun b hb=>hg.block b (hlt b (.inl (h5 i b hb).1)) (Ne.symm (h5 i b hb).2)
 ·dsimp only at hb
  by_cases e1:i=xs.length
  ·rw [if_pos e1] at hb
   exact ⟨hF b (.inr hb),hne b (.inr hb) (hxv b hb)⟩
  ·rw [if_neg e1] at hb
   split at hb
   ·exact ⟨hF b (.inl (h5 i b hb).1),hne b (.inl (h5 i b hb).1) (h5 i b hb).2⟩
   ·exact hb.elim
 ·dsimp only at hi hj
  by_cases e1:i=xs.length
  ·rw [if_pos e1] at hi
   rw [if_neg (by omega)] at hj
   split at hj
   ·exact hd b (h5 j b hj).1 hi
   ·exact hj.elim
  ·rw [if_neg e1] at hi
   split at hi
   ·by_cases e2:j=xs.length
    ·rw [if_pos e2] at hj
     exact hd b (h5 i b hi).1 hj
    ·rw [if_neg e2] at hj
     split at hj
     ·exact h6 i j b hij hi hj
     ·exact hj.elim
   ·exact hi.elim
theorem ozl_elem {T:Type}[Inhabited T]{e:OCod T}{E:TypeId}{F:Nat→Prop}{w:World}{v:Value}{xs:List T}(h:OZl e E F w v xs){i:Nat}(hi:i < xs.length):
  ∃g c es Gi,v= .slice (some ⟨g,0,none⟩) xs.length c∧F g∧e.rel Gi w es (nth xs i)∧CellsAt w g (i*e.cod.size) es∧(∀b,Gi b→F b∧b≠g)∧
   (∀w' x',e.rel Gi w' es x'→(∀b,F b→¬ Gi b→w'.heap[b]?=w.heap[b]?)→OZl e E F w' v (xs.set i x')):=by
 obtain ⟨ess,G,h1,h2,h3,h4,h5,h6⟩:=h
 have hlen:=ess_len h1 h4
 have hi':i < ess.length:=by omega
 obtain ⟨A',c',hv,hn,hm,hnil,_,hcase⟩:=ownZ_form h2
 rcases hcase with ⟨h0,_,_⟩|⟨g,rfl,_,hr,_,hc,_⟩
 ·omega
 ·subst hv
  refine ⟨g,c',ess[i],G i,rfl,h3 g hr,by rw [nth_eq hi];exact h4 i ess[i] xs[i] (List.getElem?_eq_getElem hi') (List.getElem?_eq_getElem hi),fun j u hu=>?_,fun b hb=>⟨(h5 i b hb).1,fun e1=>(h5 i b hb).2 (by rw [e1];exact hr)⟩,fun w' x' hx' hk=>?_⟩
  ·have:=hc (i*e.cod.size+j) u (flatten_slot ess i ess[i] hlen (List.getElem?_eq_getElem hi') j u hu)
   rwa [show i*e.cod.size+j=0+(i*e.cod.size+j) by omega]
  ·refine ⟨ess,G,by simpa using h1,?_,h3,fun j es x hj hx=>?_,h5,h6⟩
   ·rw [List.length_set]
    exact ownZ_keep h2 fun b hb=>hk b (h3 b hb) fun hG=>(h5 i b hG).2 hb
   ·by_cases e1:i=j
    ·subst e1
     rw [List.getElem?_set_self hi] at hx
     rw [List.getElem?_eq_getElem hi'] at hj
     injection hx with hx;injection hj with hj
     subst hx;subst hj
     exact hx'
    ·rw [List.getElem?_set_ne e1] at hx
     exact e.keep (h4 j es x hj hx) fun b hb=>hk b (h5 j b hb).1 fun hG=>h6 j i b (Ne.symm e1) hb hG
theorem flatten_set {α:Type}{k:Nat} :∀(ess:List (List α)) (i:Nat) (es:List α) (j:Nat) (u:α),(∀e∈ess,e.length=k)→ess[i]?=some es→j < k→ess.flatten.set (i*k+j) u=(ess.set i (es.set j u)).flatten:=by
 intro ess
 induction ess with
 |nil=>intro i es j u _ h;simp at h
 |cons a l ih=>
  intro i es j u hk hi hj
  have ha:=hk a (by simp)
  cases i with
  |zero=>
   simp at hi;subst hi
   rw [List.set_cons_zero,List.flatten_cons,List.flatten_cons,Nat.zero_mul,Nat.zero_add,List.set_append_left _ _ (by omega)]
  |succ i=>
   rw [List.set_cons_succ,List.flatten_cons,List.flatten_cons,List.set_append_right _ _ (by rw [ha,Nat.add_mul];omega),ha]
   rw [show (i+1)*k+j - k=i*k+j by rw [Nat.add_mul];omega]
   rw [ih i es j u (fun e he=>hk e (by simp [he])) (by simpa using hi) hj]
theorem flatMap_set {T:Type}[Inhabited T]{k:Nat}{f:T→List Value}(hf:∀x,(f x).length=k)(xs:List T)(i j:Nat)(u:Value)(x':T)(hi:i < xs.length)(hj:j < k)(hx:f x'=(f (nth xs i)).set j u):
  (xs.flatMap f).set (i*k+j) u=(xs.set i x').flatMap f:=by
 rw [List.flatMap,List.flatMap,flatten_set (k:=k) (xs.map f) i (f (nth xs i)) j u (by intro e he;obtain ⟨x,_,rfl⟩:=List.mem_map.1 he;exact hf x) (by rw [List.getElem?_map,List.getElem?_eq_getElem hi,nth_eq hi];rfl) hj,← hx,List.map_set]
theorem ozl_put {T:Type}[Inhabited T]{e:OCod T}{E:TypeId}{F:Nat→Prop}{w:World}{v:Value}{xs:List T}(h:OZl e E F w v xs){i:Nat}(hi:i < xs.length):
  ∃g c es Gi,v= .slice (some ⟨g,0,none⟩) xs.length c∧F g∧g < w.heap.size∧e.rel Gi w es (nth xs i)∧CellsAt w g (i*e.cod.size) es∧(∀b,Gi b→F b∧b≠g)∧
   ∃all:List Value,ownsZ w E e.cod.size v xs.length all∧(∀j,j < e.cod.size→i*e.cod.size+j < all.length)∧
   (∀w' es' x' (Gx F':Nat→Prop),es'.length=e.cod.size→(∀all',(∀q,q < all.length→(q < i*e.cod.size∨i*e.cod.size+e.cod.size≤q)→all'[q]?=all[q]?)→(∀j,j < e.cod.size→all'[i*e.cod.size+j]?=es'[j]?)→all'.length=all.length→ownsZ w' E e.cod.size v xs.length all')→
    e.rel Gx w' es' x'→(∀b,F b→¬ Gi b→b≠g→w'.heap[b]?=w.heap[b]?)→(∀b,F b→F' b)→(∀b,Gx b→F' b∧b≠g)→(∀b,Gx b→F b→Gi b)→OZl e E F' w' v (xs.set i x')):=by
 obtain ⟨ess,G,h1,h2,h3,h4,h5,h6⟩:=h
 have hlen:=ess_len h1 h4
 have hi':i < ess.length:=by omega
 obtain ⟨A',c',hv,hn,hm,hnil,hal,hcase⟩:=ownZ_form h2
 rcases hcase with ⟨h0,_,_⟩|⟨g,rfl,_,hr,hg,hc,_⟩
 ·omega
 ·subst hv
  refine ⟨g,c',ess[i],G i,rfl,h3 g hr,hg,by rw [nth_eq hi];exact h4 i ess[i] xs[i] (List.getElem?_eq_getElem hi') (List.getElem?_eq_getElem hi),fun j u hu=>?_,fun b hb=>⟨(h5 i b hb).1,fun e1=>(h5 i b hb).2 (by rw [e1];exact hr)⟩,ess.flatten,h2,fun j hj=>?_,fun w' es' x' Gx F' hes hall hx' hk hF hGx hGF=>?_⟩
  ·have:=hc (i*e.cod.size+j) u (flatten_slot ess i ess[i] hlen (List.getElem?_eq_getElem hi') j u hu)
   rwa [show i*e.cod.size+j=0+(i*e.cod.size+j) by omega]
  ·rw [hal]
   have:i*e.cod.size+e.cod.size≤xs.length*e.cod.size:=by rw [← Nat.succ_mul];exact Nat.mul_le_mul_right _ hi
   omega
  ·have hlen2:∀a∈ess.set i es',a.length=e.cod.size:=fun a ha=>by
    rcases List.mem_or_eq_of_mem_set ha with h|rfl
    ·exact hlen a h
    ·exact hes
   have hflat:∀(l:List (List Value)),(∀a∈l,a.length=e.cod.size)→l.flatten.length=l.length*e.cod.size:=by
    intro l
    induction l with
    |nil=>intro _;simp
    |cons a l ih=>intro h;rw [List.flatten_cons,List.length_append,ih fun a ha=>h a (by simp [ha]),h a (by simp),List.length_cons,Nat.add_mul];omega
   refine ⟨ess.set i es',fun j=>if j=i then Gx else G j,by simp [h1],?_,fun b hb=>hF b (h3 b hb),fun j es x hj hx=>?_,fun j b hb=>?_,fun j k b hjk hj hk=>?_⟩
   ·rw [List.length_set]
    refine hall _ (fun q hq hne=>?_) (fun j hj=>?_) (by rw [hflat _ hlen2,hflat _ hlen,List.length_set])
    ·have hs0:0 < e.cod.size:=by
      rcases Nat.eq_zero_or_pos e.cod.size with h0|h0
      ·rw [hflat _ hlen,h0] at hq;simp at hq
      ·exact h0
     have hqi:q / e.cod.size < ess.length:=by rw [hflat _ hlen] at hq;exact Nat.div_lt_of_lt_mul (by rw [Nat.mul_comm];exact hq)
     have hqr:=Nat.mod_lt q hs0
     have hdm:q / e.cod.size*e.cod.size+q % e.cod.size=q:=by rw [Nat.mul_comm];exact Nat.div_add_mod q _
     have hqne:q / e.cod.size≠i:=by
      intro e1
      rw [e1] at hdm
      omega
     have hx1:q % e.cod.size < (ess[q / e.cod.size]).length:=by rw [hlen _ (List.getElem_mem hqi)];exact hqr
     have t1:=flatten_slot (ess.set i es') (q / e.cod.size) ess[q / e.cod.size] hlen2 (by rw [List.getElem?_set_ne (Ne.symm hqne),List.getElem?_eq_getElem hqi]) (q % e.cod.size) _ (List.getElem?_eq_getElem hx1)
     have t2:=flatten_slot ess (q / e.cod.size) ess[q / e.cod.size] hlen (List.getElem?_eq_getElem hqi) (q % e.cod.size) _ (List.getElem?_eq_getElem hx1)
     rw [hdm] at t1 t2
     rw [t1,t2]
    ·have hx1:j < es'.length:=by omega
     rw [List.getElem?_eq_getElem hx1]
     exact flatten_slot (ess.set i es') i es' hlen2 (by rw [List.getElem?_set_self hi']) j _ (List.getElem?_eq_getElem hx1)
   ·dsimp only
    by_cases e1:j=i
    ·subst e1
     rw [if_pos rfl]
     rw [List.getElem?_set_self hi'] at hj
     rw [List.getElem?_set_self hi] at hx
     injection hj with hj;injection hx with hx
     subst hj;subst hx
     exact hx'
    ·rw [if_neg e1]
     rw [List.getElem?_set_ne (Ne.symm e1)] at hj hx
     exact e.keep (h4 j es x hj hx) fun b hb=>hk b (h5 j b hb).1 (fun hG=>h6 j i b e1 hb hG) fun e2=>(h5 j b hb).2 (by rw [e2];exact hr)
   ·dsimp only at hb
    by_cases e1:j=i
    ·rw [if_pos e1] at hb
     exact ⟨(hGx b hb).1,fun e2=>(hGx b hb).2 (by rw [hr] at e2;injection e2 with e2;exact e2.symm)⟩
    ·rw [if_neg e1] at hb
     exact ⟨hF b (h5 j b hb).1,(h5 j b hb).2⟩
   ·dsimp only at hj hk
    by_cases e1:j=i
    ·rw [if_pos e1] at hj
     rw [if_neg (by omega)] at hk
     exact h6 k i b (by omega) hk (hGF b hj (h5 k b hk).1)
    ·rw [if_neg e1] at hj
     by_cases e2:k=i
     ·rw [if_pos e2] at hk
      exact h6 j i b e1 hj (hGF b hk (h5 j b hj).1)
     ·rw [if_neg e2] at hk
      exact h6 j k b hjk hj hk
theorem ozl_step {T:Type}{e:OCod T}{E:TypeId}{F Fx F':Nat→Prop}{w0 w w' w'':World}{v v':Value}{xs:List T}{x:T}{ess:List (List Value)}{G:Nat→Nat→Prop}{es:List Value}
  (h1:ess.length=xs.length) (h4:∀i es x,ess[i]?=some es→xs[i]?=some x→e.rel (G i) w0 es x) (h5:∀i b,G i b→F b∧rowZ v≠some b) (h6:∀i j b,i≠j→G i b→¬ G j b)
  (h3:∀b,rowZ v=some b→F b) (hg:w.grownBy w' (rowZ v)) (hat:∀b,rowZ v'=some b→rowZ v=some b∨b=w.heap.size) (hown:ownsZ w' E e.cod.size v' (xs.length+1) (ess.flatten++es))
  (hx:e.rel Fx w es x) (hk:KeepI F w0 w) (hd:∀b,F b→¬ Fx b) (hlt:∀b,F b∨Fx b→b < w.heap.size)
  (hF:∀b,F b∨Fx b→F' b) (hF':∀b,b=w.heap.size→b < w'.heap.size→F' b) (hk2:KeepI F' w' w''):OZl e E F' w'' v' (xs++[x]):=
 (ozl_app h1 (fun i es x hi hx=>e.keep (h4 i es x hi hx) fun b hb=>hk b (h5 i b hb).1) h5 h6 hx hd hlt h3 hown hg hat hF (fun b hb=>by
  rcases hat b hb with e1|e1
  ·exact hF b (.inl (h3 b e1))
  ·exact hF' b e1 (ownZ_lt hown b hb))).keep hk2
end
end Go.Proofs.Ytinlmkhlgclbfab
