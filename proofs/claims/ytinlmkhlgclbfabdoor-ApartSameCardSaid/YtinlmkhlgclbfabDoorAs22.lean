/- MailC to MailE -/
import Derived.Test.YtinlmkhlgclbfabDoorAs09
namespace Go.Proofs.YtinlmkhlgclbfabDoor
open Go.RowKit
section
set_option maxRecDepth 100000
set_option maxHeartbeats 400000
theorem growNil (n:Nat)(w:World)(hn:n*8≤140737488355328):
  Calls Tryd.prog 90 #[.slice none 0 0,.int .i64 n] w (RetRow 3 1 0 [] w):=by
 by_cases h0:n=0
 ·subst h0
  go_enter Tryd.func90,Tryd.ntmps90
  go_wp2
  go_ret
  exact ⟨_,_,rfl,World.ownsRow_nil _ _ _ _,Below.refl _ _⟩
 ·obtain ⟨i,hi,hz,hsz,hby⟩:=info_of (P:=Tryd.prog) (e:=3) (z:= .int .i64 0) (size:=1) (bytes:=8) (by kernel_rfl)
  have hr:=Lib.run_append_nil_zeros (P:=Tryd.prog) w 23 3 23 3 i (.int .i64 0) .i64 .i64 Tryd.underlying23 Tryd.underlying3 hi hz n (by omega) (by omega) (by omega) (by rw [hby];omega)
  have hge:=grownCap_ge w n 0 3
  have hle:=grownCap_le_maxLen w n 0 3 (by unfold maxLen;omega)
  generalize hcap:grownCap w n 0 3=cap at hr hge hle
  clear hcap
  generalize hcells:(Builtin.zeroCells (Value.int .i64 0).cells n++Builtin.zeroCells (Value.int .i64 0).cells (cap - n))=cells at hr
  have hsize:cells.size=cap:=by
   rw [← hcells,Array.size_append,size_zeroCells,size_zeroCells]
   show n*1+(cap - n)*1=cap
   omega
  clear hcells
  have Hr:=zH hr
  have Hs:=zH hsize
  clear hr hsize hi hz hsz hby
  have hpos:(0:Int) < n:=by omega
  go_enter Tryd.func90,Tryd.ntmps90
  go_wp2_with (at_builtin;refine Lib.wpList_append_run _ rfl _ _ _ _ rfl _ _ rfl rfl _ _ Hr.out ?_)
  go_ret
  refine ⟨_,_,rfl,⟨by simp,.inr ⟨w.heap.size,cap,cells,rfl,Nat.le_refl _,heap_alloc_new w.drew _,Nat.zero_le _,hle,by rw [Hs.out];omega,by simp⟩⟩,byB⟩
def catLen (xss:List (List Int)) (k:Nat):Nat:=(xss.take k).flatten.length
theorem catLen_succ (xss:List (List Int))(k:Nat)(h:k < xss.length):catLen xss (k+1)=catLen xss k+(nth xss k).length:=by
 unfold catLen;rw [nth_eq h,List.take_succ_eq_append_getElem h,List.flatten_append,List.length_append];simp
theorem catLen_le (xss:List (List Int))(k:Nat):catLen xss k≤xss.flatten.length:=by
 unfold catLen
 have:xss.flatten=(xss.take k).flatten++(xss.drop k).flatten:=by rw [← List.flatten_append,List.take_append_drop]
 rw [this,List.length_append];omega
def catCells (xss:List (List Int)) (k:Nat):List Value:=(xss.take k).flatten.flatMap (fun n=>[Value.int .i64 n])
theorem catCells_succ (xss:List (List Int))(k:Nat)(h:k < xss.length):catCells xss (k+1)=catCells xss k++(nth xss k).flatMap (fun n=>[Value.int .i64 n]):=by
 unfold catCells;rw [nth_eq h,List.take_succ_eq_append_getElem h,List.flatten_append,List.flatMap_append];simp
theorem concatInt (xss:List (List Int))(A:Option Addr)(c:Nat)(B:Nat)(w:World)(hB:B≤w.heap.size)(hs:Sl cInt.slice (Low B) w A c xss)(hb:xss.flatten.length*8≤140737488355328):
  Calls Tryd.prog 74 #[.slice A xss.length c] w (RetRow 3 1 xss.flatten.length (xss.flatten.flatMap fun n=>[Value.int .i64 n]) w):=by
 have hm:xss.length≤maxLen:=Nat.le_trans hs.cap hs.max
 unfold maxLen at hm
 have hle:=catLen_le xss
 have Hle:=zH hle
 clear hle
 have hG:=zH (growNil (catLen xss xss.length))
 go_enter Tryd.func74,Tryd.ntmps74
 go_wp2
 go_loop [3,11] (fun sum i=>∃k:Nat,k≤xss.length∧i= .int .i64 k∧sum= .int .i64 (catLen xss k)) (fun _ i=>xss.length - (intOf i).toNat)
 case atStart=>exact ⟨0,Nat.zero_le _,rfl,rfl⟩
 case round=>
  obtain ⟨k,hk,rfl,rfl⟩:=hrel
  by_cases hlt:k < xss.length
  ·obtain ⟨b,o,A',c',rfl,hI,hcell,_⟩:=hs.at_slice hlt
   have h1:=Hle.out (k+1)
   have hsucc:=zH (catLen_succ xss k hlt)
   have h2:catLen xss k+(nth xss k).length≤100000000000000:=by rw [← hsucc.out];omega
   clear h1
   go_wp2
   go_round
   case rel=>exact ⟨k+1,by omega,by go_num,by rw [hsucc.out];go_num⟩
   case measure=>simp [intOf];omega
  ·obtain rfl:k=xss.length:=by omega
   have hall:=zH (show catLen xss xss.length=xss.flatten.length by simp only [catLen,List.take_length])
   have hallc:=zH (show catCells xss xss.length=xss.flatten.flatMap (fun n=>[Value.int .i64 n]) by simp only [catCells,List.take_length])
   go_wp2_with (go_at_call 90;refine (hG.out _ ?_).mono ?_;(rw [hall.out];exact hb);rintro e w1 ⟨A1,c1,rfl,hown,hbw0⟩)
   go_loopw [6,27] (fun v i wr=>∃(k:Nat) (A1:Option Addr) (c1:Nat),k≤xss.length∧i= .int .i64 k∧v= .slice A1 (catLen xss k) c1∧wr.ownsRow w.heap.size 3 1 (.slice A1 (catLen xss k) c1) (catLen xss k) (catCells xss k)∧Below w.heap.size w wr) (fun _ i _=>xss.length - (intOf i).toNat)
   case atStart=>exact ⟨0,_,_,Nat.zero_le _,rfl,rfl,hown,hbw0⟩
   case round=>
    obtain ⟨k,A1,c1,hk,rfl,rfl,hown,hbw⟩:=hrel
    by_cases hlt:k < xss.length
    ·obtain ⟨b,o,A',c',rfl,hI,hcell,hin⟩:=(hs.next hB hbw).at_slice hlt
     have h1:=Hle.out (k+1)
     have hsucc:=zH (catLen_succ xss k hlt)
     have h2:catLen xss k+(nth xss k).length≤xss.flatten.length:=by rw [← hsucc.out];exact h1
     clear h1
     go_wp2_with (at_builtin;refine wpList_app rfl (.tmp 31) (.tmp 32) _ rfl w.heap.size tyInt _ (catLen xss k) (catCells xss k) (by rfl) hown A' (nth xss k).length c' ((nth xss k).flatMap fun n=>[Value.int .i64 n]) (by rfl) hin.src (one_int _) ?_ ?_ ?_ ?_;(unfold maxLen;omega);(omega);(exact hbw.size);intro A2 c2 w1 hown1 hg1 hat1)
     go_roundw
     case rel=>exact ⟨k+1,A2,c2,by omega,by go_num,by rw [hsucc.out],by rw [hsucc.out,catCells_succ xss k hlt];exact hown1,grown_below hbw hbw.size hown hg1⟩
     case measure=>simp [intOf];omega
    ·obtain rfl:k=xss.length:=by omega
     go_wp2
     go_ret
     rw [hall.out,hallc.out] at hown
     rw [hall.out]
     exact ⟨_,_,rfl,hown,hbw⟩
def RetRing (vals:List Int) (lost:Int) (w:World) (en:Ending) (w':World):Prop:=
 ∃A c,en= .returned (.agg #[.slice A vals.length c,.int .i64 lost])∧w'.ownsRow w.heap.size 3 1 (.slice A vals.length c) vals.length (vals.flatMap fun n=>[Value.int .i64 n])∧Below w.heap.size w w'
theorem mailCome (vs ys:List Int)(lost:Int)(size:Nat)(A A':Option Addr)(c c':Nat)(B:Nat)(w:World)(hB:B≤w.heap.size)(hs:Sl cInt (Low B) w A c vs)(hs':Sl cInt (Low B) w A' c' ys)
  (hsize:size≤4) (hvs:vs.length≤size) (hl0:0≤lost) (hl1:lost≤100000) (hy:ys.length*8≤140737488355328):
  Calls Tryd.prog 62 #[.agg #[.slice A vs.length c,.int .i64 lost],.int .i64 size,.slice A' ys.length c'] w (RetRing (comeVals vs ys size) (comeLost vs ys lost size) w):=by
 have hmin:(min ((size:Int) - (vs.length:Int)) (ys.length:Int))=((comeN vs ys size:Nat):Int):=by unfold comeN;omega
 have hn:comeN vs ys size≤ys.length:=by unfold comeN;omega
 have hn4:comeN vs ys size≤4:=by unfold comeN;omega
 have hc':ys.length≤c':=hs'.cap
 have Hmin:=zH hmin
 clear hmin
 have hn0:(0:Int)≤(comeN vs ys size:Nat):=by omega
 have hnc:((comeN vs ys size:Nat):Int)≤c':=by omega
 generalize hN:comeN vs ys size=N at*
 have HN:=zH hN
 clear hN
 have hlen:(ys.take N).length=N:=by rw [List.length_take];omega
 have Hlen:=zH hlen
 clear hlen
 have hsum:lost+ys.length≤100000000000000:=by omega
 have Hv:=zH (show comeVals vs ys size=vs++ys.take N by unfold comeVals;rw [HN.out])
 have Hl:=zH (show comeLost vs ys lost size=min 100000 (lost+ys.length - N) by unfold comeLost;rw [HN.out])
 have HC:=fun W g (hb:Below w.heap.size w W) (h:W.heap[g]?=some (.cells #[.slice A vs.length c,.slice A' N c'] 23))=>
  concatInt [vs,ys.take N] (some ⟨g,0,none⟩) 2 W.heap.size W (Nat.le_refl _) (sl_two h (Array.getElem?_eq_some_iff.1 h).1 rfl Hlen.out.symm ((hs.next hB hb).up (Nat.le_trans hB hb.size)) (((hs'.next hB hb).take N).up (Nat.le_trans hB hb.size)))
   (by simp only [List.flatten_cons,List.flatten_nil,List.append_nil,List.length_append,Hlen.out];omega)
 clear hs hs'
 have hcat:[vs,ys.take N].flatten=comeVals vs ys size:=by rw [Hv.out];simp
 rw [hcat] at HC
 have hlen:(comeVals vs ys size).length=vs.length+N:=by rw [Hv.out,List.length_append,Hlen.out]
 rw [hlen] at HC
 have HC:=zH HC
 clear hcat
 have Hlc:=zH hlen
 clear hlen
 go_enter Tryd.func62,Tryd.ntmps62
 go_upto_region 1 with (fail)
 go_cut [7] (fun v wx=>v= .int .i64 (N:Nat)∧wx=(w.alloc (.cells #[.slice A vs.length c,.int .i64 lost] 77)).alloc (.cells #[.slice none 0 0,.int .i64 0] 77))
 case first=>
  go_wp2
  all_goals go_meet
  all_goals (refine ⟨?_,rfl⟩;rw [← Hmin.out]<;>(congr 1;omega))
 case rest=>
  obtain ⟨rfl,rfl⟩:=hcut
  go_upto_region 2 with (fail)
  go_cut [31] (fun _ wx=>∃A1 c1,wx.cell? ⟨w.heap.size+1,0,none⟩=some (.slice A1 (vs.length+N) c1)∧wx.cell? ⟨w.heap.size+1,1,none⟩=some (.int .i64 (comeLost vs ys lost size))∧
   wx.ownsRow w.heap.size 3 1 (.slice A1 (vs.length+N) c1) (vs.length+N) ((comeVals vs ys size).flatMap fun n=>[Value.int .i64 n])∧Below w.heap.size w wx)
  case first=>
   have hw1:IntKind.i64.wrap (lost+ys.length)=lost+ys.length:=IntWalk.i64_in _ (by omega)
   have hw2:IntKind.i64.wrap (lost+ys.length - N)=lost+ys.length - N:=IntWalk.i64_in _ (by omega)
   rcases Int.lt_or_le (lost+ys.length - N) 100000 with hmx|hmx
   all_goals
    go_region_held3 (fun w'=>w'.cell? ⟨w.heap.size,0,none⟩=some (.slice A vs.length c)∧w'.cell? ⟨w.heap.size,1,none⟩=some (.int .i64 lost)) (first|go_keep|(rw [hc1 _ _ (by simp;omega),hc1 _ _ (by simp;omega)];go_keep))
     (first|(go_at_call 74;refine (HC.out _ _ byB byN).mono ?_;rintro e w1 ⟨A1,c1,rfl,hown,hb1⟩;obtain ⟨hc1,hf1⟩:=bcell hb1))
   all_goals
    go_wp2_with fail
    go_meet
    have z:w.heap.size+3≤w1.heap.size:=by have:=hb1.size;simpa using this
    have q0:w1.cell? ⟨w.heap.size+1,0,none⟩=some (.slice none 0 0):=by rw [hc1 _ _ (by simp)];simp [go_sem]
    have q1:w1.cell? ⟨w.heap.size+1,1,none⟩=some (.int .i64 0):=by rw [hc1 _ _ (by simp)];simp [go_sem]
    clear hc1 hf1
    refine ⟨A1,c1,by simp [go_sem,q0,q1],?_,?_,byB⟩
    ·simp [go_sem,q0,q1];rw [Hl.out]<;>first|omega|(split<;>omega)
    ·refine own_mono (ownsRow_setCell_below (ownsRow_setCell_below hown ?_ _) ?_ _) ?_<;>simp<;>omega
  case rest=>
   obtain ⟨A1,c1,q0,q1,hown,hbw⟩:=hcut
   go_wp2
   refine bodyPost_ret (v:= .agg #[.slice A1 (vs.length+N) c1,.int .i64 (comeLost vs ys lost size)]) (by simp [results,Tryd.results62,go_sem,q0,q1]) rfl ?_
   exact ⟨A1,c1,by rw [Hlc.out],by rw [Hlc.out];exact hown,hbw⟩
theorem Sl.tail {T:Type}{e:Cod T}{I:Nat→Prop}{w:World}{b o c:Nat}{x:T}{xs:List T}(h:Sl e I w (some ⟨b,o,none⟩) c (x::xs)):
  Sl e I w (if c=1 then some ⟨b,o,none⟩ else some ⟨b,o+1*e.size,none⟩) (c - 1) xs:=by
 have hc:=h.cap
 simp only [List.length_cons] at hc
 refine ⟨by omega,by have:=h.max;omega,fun hn=>(by split at hn<;>cases hn),fun i hi=>?_⟩
 obtain ⟨b',o',es,hA,hI,hr,hcell⟩:=h.elem (i+1) (by simpa using hi)
 injection hA with hA;injection hA with e1 e2
 subst e1;subst e2
 rw [if_neg (by omega)]
 refine ⟨_,_,es,rfl,hI,by simpa using hr,?_⟩
 rw [show o+1*e.size+i*e.size=o+(i+1)*e.size by rw [Nat.add_mul];omega]
 exact hcell
def RetRingInt (vals:List Int) (lost v:Int) (w:World) (en:Ending) (w':World):Prop:=
 ∃A c,en= .returned (.tuple #[.agg #[.slice A vals.length c,.int .i64 lost],.int .i64 v])∧w'.ownsRow w.heap.size 3 1 (.slice A vals.length c) vals.length (vals.flatMap fun n=>[Value.int .i64 n])∧Below w.heap.size w w'
theorem mailTake (vs:List Int)(lost:Int)(A:Option Addr)(c:Nat)(B:Nat)(w:World)(hB:B≤w.heap.size)(hs:Sl cInt (Low B) w A c vs)(hb:vs.length*8≤140737488355328):
  Calls Tryd.prog 94 #[.agg #[.slice A vs.length c,.int .i64 lost]] w (RetRingInt (restOf vs) lost (takeV vs) w):=by
 cases vs with
 |nil=>
  go_enter Tryd.func94,Tryd.ntmps94
  go_wp2
  refine bodyPost_ret (v:= .tuple #[.agg #[.slice none 0 0,.int .i64 lost],.int .i64 (-1)]) (by simp [results,Tryd.results94,go_sem]) rfl ?_
  exact ⟨none,0,rfl,World.ownsRow_nil _ _ _ _,byB⟩
 |cons v0 vs=>
  obtain ⟨b,o,hA,hI,hcell⟩:=hs.at_int (k:=0) (by simp)
  subst hA
  have hnth:nth (v0::vs) 0=v0:=rfl
  rw [hnth,Nat.add_zero] at hcell
  have ht:=hs.tail
  have hlt:b < w.heap.size:=Nat.lt_of_lt_of_le hI hB
  have hc:=hs.cap
  have hcm:=hs.max
  simp only [List.length_cons] at hc hb
  have HC:=fun A2 c2 (h2:Sl cInt (Low B) w A2 c2 vs) W (hbw:Below w.heap.size w W)=>cloneInt vs A2 c2 B W (Nat.le_trans hB hbw.size) (h2.next hB hbw) (by omega)
  have HC2:∃A2 c2,((c=1∧A2=some (⟨b,o,none⟩:Addr)∧c2=0)∨(¬ c=1∧A2=some (⟨b,o+1,none⟩:Addr)∧c2=c - 1))∧Sl cInt (Low B) w A2 c2 vs:=by
   by_cases h:c=1
   ·subst h;exact ⟨_,_,.inl ⟨rfl,rfl,rfl⟩,by simpa using ht⟩
   ·rw [if_neg h] at ht;exact ⟨_,_,.inr ⟨h,rfl,rfl⟩,by simpa [cInt,Cod.flat] using ht⟩
  clear hs ht
  obtain ⟨A2,c2,hor,ht⟩:=HC2
  have HC:=zH (HC A2 c2 ht)
  clear ht
  have hne:b≠w.heap.size+1:=by omega
  have hne2:w.heap.size+1≠b:=by omega
  have h0:(0:Int) < ((vs.length+1:Nat):Int):=by omega
  have h1:((vs.length+1:Nat)==0)=false:=by simp
  have hpos:(1:Int)≤(vs.length:Int)+1:=by omega
  have hpos2:(0:Int) < (vs.length:Int)+1:=by omega
  have heq:(((vs.length:Int)+1)==0)=false:=by simp;omega
  rcases hor with ⟨rfl,rfl,rfl⟩|⟨hcap,rfl,rfl⟩
  ·obtain rfl:vs=[]:=List.eq_nil_of_length_eq_zero (by omega)
   go_enter Tryd.func94,Tryd.ntmps94
   go_upto_region 3 with (fail)
   go_cut [3] (fun v wx=>∃A1 c1,v= .int .i64 v0∧wx.cell? ⟨w.heap.size+1,0,none⟩=some (.slice A1 0 c1)∧wx.cell? ⟨w.heap.size+1,1,none⟩=some (.int .i64 lost)∧
    wx.ownsRow w.heap.size 3 1 (.slice A1 0 c1) 0 (([]:List Int).flatMap fun n=>[Value.int .i64 n])∧Below w.heap.size w wx)
   case first=>
    go_region_held3 (fun w'=>w'.cell? ⟨w.heap.size,0,none⟩=some (.slice (some ⟨b,o,none⟩) (1) 1)∧w'.cell? ⟨w.heap.size,1,none⟩=some (.int .i64 lost)∧w'.cell? ⟨b,o,none⟩=some (.int .i64 v0)) (first|go_keep|((try dsimp only);(repeat apply And.intro)<;>go_keep))
     (first|(go_at_call 97;refine (HC.out _ byB).mono ?_;rintro e w1 ⟨A1,c1,rfl,hown,hb1⟩;obtain ⟨hcw,hfw⟩:=bcell hb1;have k0:=hcw w.heap.size 0 (by simp;omega);have k1:=hcw w.heap.size 1 (by simp;omega);have k2:=hcw b o (by simp;omega);have q0:=hcw (w.heap.size+1) 0 (by simp);have q1:=hcw (w.heap.size+1) 1 (by simp);simp [go_sem,hcell,hlt] at k0 k1 k2 q0 q1))
    all_goals
     go_wp2_with fail
     go_meet
     refine ⟨A1,c1,rfl,by simp [go_sem,q0,q1],by simp [go_sem,q0,q1],?_,byB⟩
     refine own_mono (ownsRow_setCell_below (ownsRow_setCell_below hown ?_ _) ?_ _) ?_<;>simp<;>omega
   case rest=>
    obtain ⟨A1,c1,rfl,q0,q1,hown,hbw⟩:=hcut
    go_wp2
    exact bodyPost_ret (v:= .tuple #[.agg #[.slice A1 0 c1,.int .i64 lost],.int .i64 v0]) (by simp [results,Tryd.results94,go_sem,q0,q1]) rfl ⟨A1,c1,rfl,hown,hbw⟩
  ·skip
   go_enter Tryd.func94,Tryd.ntmps94
   go_upto_region 3 with (fail)
   go_cut [3] (fun v wx=>∃A1 c1,v= .int .i64 v0∧wx.cell? ⟨w.heap.size+1,0,none⟩=some (.slice A1 vs.length c1)∧wx.cell? ⟨w.heap.size+1,1,none⟩=some (.int .i64 lost)∧
    wx.ownsRow w.heap.size 3 1 (.slice A1 vs.length c1) vs.length (vs.flatMap fun n=>[Value.int .i64 n])∧Below w.heap.size w wx)
   case first=>
    go_region_held3 (fun w'=>w'.cell? ⟨w.heap.size,0,none⟩=some (.slice (some ⟨b,o,none⟩) (vs.length+1) c)∧w'.cell? ⟨w.heap.size,1,none⟩=some (.int .i64 lost)∧w'.cell? ⟨b,o,none⟩=some (.int .i64 v0)) (first|go_keep|((try dsimp only);(repeat apply And.intro)<;>go_keep))
     (first|(go_at_call 97;refine (HC.out _ byB).mono ?_;rintro e w1 ⟨A1,c1,rfl,hown,hb1⟩;obtain ⟨hcw,hfw⟩:=bcell hb1;have k0:=hcw w.heap.size 0 (by simp;omega);have k1:=hcw w.heap.size 1 (by simp;omega);have k2:=hcw b o (by simp;omega);have q0:=hcw (w.heap.size+1) 0 (by simp);have q1:=hcw (w.heap.size+1) 1 (by simp);simp [go_sem,hcell,hlt] at k0 k1 k2 q0 q1))
    all_goals
     go_wp2_with fail
     go_meet
     refine ⟨A1,c1,rfl,by simp [go_sem,q0,q1],by simp [go_sem,q0,q1],?_,byB⟩
     refine own_mono (ownsRow_setCell_below (ownsRow_setCell_below hown ?_ _) ?_ _) ?_<;>simp<;>omega
   case rest=>
    obtain ⟨A1,c1,rfl,q0,q1,hown,hbw⟩:=hcut
    go_wp2
    exact bodyPost_ret (v:= .tuple #[.agg #[.slice A1 vs.length c1,.int .i64 lost],.int .i64 v0]) (by simp [results,Tryd.results94,go_sem,q0,q1]) rfl ⟨A1,c1,rfl,hown,hbw⟩
end
end Go.Proofs.YtinlmkhlgclbfabDoor
