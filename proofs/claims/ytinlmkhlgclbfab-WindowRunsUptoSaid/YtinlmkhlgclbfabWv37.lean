/- MailG -/
import Derived.Test.YtinlmkhlgclbfabWv19
namespace Go.Proofs.Ytinlmkhlgclbfab
open Go.RowKit
set_option maxRecDepth 100000
set_option maxHeartbeats 400000
theorem refReceiveZ (vs:List Int)(lost:Int)(A:Option Addr)(c:Nat)(B:Nat)(w:World)(hB:B≤w.heap.size)(hs:Sl cInt (Low B) w A c vs)(hb:vs.length*8≤140737488355328):
  Calls Try.prog 76 #[.agg #[.slice A vs.length c,.int .i64 lost]] w fun en w'=>∃A' c',en= .returned (.tuple #[.agg #[.slice A' (restOf vs).length c',.int .i64 lost],.int .i64 (takeV vs)])∧Sl cInt (LoR B w.heap.size w'.heap.size) w' A' c' (restOf vs)∧Below w.heap.size w w'∧((vs=[]∧A'=A∧c'=c)∨w'.ownsRow w.heap.size 3 1 (.slice A' (restOf vs).length c') (restOf vs).length ((restOf vs).flatMap fun n=>[Value.int .i64 n])):=by
 cases vs with
 |nil=>
  go_enter Try.func76,Try.ntmps76
  go_wp2
  refine bodyPost_ret (v:= .tuple #[.agg #[.slice A 0 c,.int .i64 lost],.int .i64 (-1)]) (by simp [results,Try.results76,go_sem]) rfl ?_
  exact ⟨A,c,rfl,(hs.next hB byB).mono fun _ h=>Or.inl h,byB,.inl (by simp)⟩
 |cons v0 vs=>
  obtain ⟨b,o,hA,hI,hcell⟩:=hs.at_int (k:=0) (by simp)
  subst hA
  have hnth:nth (v0::vs) 0=v0:=rfl
  rw [hnth,Nat.add_zero] at hcell
  have ht:=hs.tail
  have hlt:b < w.heap.size:=Nat.lt_of_lt_of_le hI hB
  have hc:=hs.cap
  have hcm:=hs.max
  simp only [List.length_cons] at hc hb
  have HC2:∃A2 c2,((c=1∧A2=some (⟨b,o,none⟩:Addr)∧c2=0)∨(¬ c=1∧A2=some (⟨b,o+1,none⟩:Addr)∧c2=c - 1))∧Sl cInt (Low B) w A2 c2 vs:=by
   by_cases h:c=1
   ·subst h;exact ⟨_,_,.inl ⟨rfl,rfl,rfl⟩,by simpa using ht⟩
   ·rw [if_neg h] at ht;exact ⟨_,_,.inr ⟨h,rfl,rfl⟩,by simpa [cInt,Cod.flat] using ht⟩
  clear hs ht
  obtain ⟨A2,c2,hor,ht⟩:=HC2
  have hne:b≠w.heap.size+1:=by omega
  have hne2:w.heap.size+1≠b:=by omega
  have hpos:(1:Int)≤(vs.length:Int)+1:=by omega
  have hpos2:(0:Int) < (vs.length:Int)+1:=by omega
  have heq:(((vs.length:Int)+1)==0)=false:=by simp;omega
  rcases hor with ⟨rfl,rfl,rfl⟩|⟨hcap,rfl,rfl⟩
  ·obtain rfl:vs=[]:=List.eq_nil_of_length_eq_zero (by omega)
   go_enter Try.func76,Try.ntmps76
   go_upto_region 3 with (fail)
   go_cut [3] (fun v wx=>∃A1 c1,v= .int .i64 v0∧wx.heap[w.heap.size+1]?=some (.cells #[.slice A1 0 c1,.int .i64 lost] 113)∧
    wx.ownsRow w.heap.size 3 1 (.slice A1 0 c1) 0 (([]:List Int).flatMap fun n=>[Value.int .i64 n])∧Below w.heap.size w wx)
   case first=>
    go_region_held3 (fun w'=>w'.cell? ⟨w.heap.size,0,none⟩=some (.slice (some ⟨b,o,none⟩) (1) 1)∧w'.cell? ⟨w.heap.size,1,none⟩=some (.int .i64 lost)∧w'.cell? ⟨b,o,none⟩=some (.int .i64 v0)) (((try dsimp only);(repeat' apply And.intro)<;>(first|exact (Below.cell (B:=w.heap.size) (w:=w) byB (by assumption)).trans (by assumption)|go_keep|(simp [go_sem, *];done))))
     (first|(refine step_app ?_ (.tmp 9) (.tmp 12) _ ?_ (w.heap.size+2) tyInt (.slice (some ⟨w.heap.size+2,0,none⟩) 0 0) 0 [] ?_ ?_ (some ⟨b,o,none⟩) 0 0 (([]:List Int).flatMap fun n=>[Value.int .i64 n]) ?_ ?_ (one_int _) ?_ ?_ ?_ ?_;rfl;rfl;rfl;exact (own_mono (base:=w.heap.size+2) (by repeat (first|with_reducible exact own_empty byS|(with_reducible refine World.ownsRow.alloc ?_ _)|(with_reducible refine own_drew ?_)|(with_reducible refine own_drewN ?_ _)|(with_reducible refine ownsRow_setCell_below ?_ ?_ _;rotate_left;(first|omega|(simp<;>omega))))) (by first|omega|exact Below.size (by assumption)|(simp<;>omega)));rfl;exact (ht.next hB byB).src;(first|(unfold maxLen;omega)|(simp only [maxLen];omega));(omega);(first|exact Nat.le_refl _|exact Below.size (by assumption)|omega|(simp<;>omega));intro A1 c1 w1 hown1 hg_w1 hat_w1;refine have_then (P:=w1.heap[w.heap.size+1]?=some (.cells #[.slice none 0 0,.int .i64 0] 113)) ?_ (fun r_w1=>?_);(focus (refine (hg_w1.block _ ?_ ?_).trans ?_;(first|omega|(simp<;>omega));(first|omega|exact Ne.symm (by assumption)|(intro e;have hlt:=(World.ownsRow.lt hown _ e.symm).1;omega)|(simp [Value.ownBlock]<;>omega));exact byH;done));obtain ⟨cr_w1,fr_w1,zr_w1⟩:=blk r_w1;refine have_then (P:=w1.heap[w.heap.size]?=some (.cells #[.slice (some ⟨b,o,none⟩) (1) 1,.int .i64 lost] 113)) ?_ (fun a_w1=>?_);(focus (refine (hg_w1.block _ ?_ ?_).trans ?_;(first|omega|(simp<;>omega));(first|omega|exact Ne.symm (by assumption)|(intro e;have hlt:=(World.ownsRow.lt hown _ e.symm).1;omega)|(simp [Value.ownBlock]<;>omega));exact byH;done));obtain ⟨ca_w1,fa_w1,za_w1⟩:=blk a_w1;refine have_then (P:=Below w.heap.size w w1) ?_ (fun h_w1=>?_);(focus (refine Below.grown ?_ hg_w1 ?_ ?_;(focus (exact byB;done));(first|exact Nat.le_refl _|exact Below.size (by assumption)|omega|(simp<;>omega));(intro kk hkk;first|(simp [Value.ownBlock] at hkk;omega)|(have hlt:=(World.ownsRow.lt hown kk hkk).1;omega));done));have s_w1:=Below.size h_w1))
    all_goals
     go_wp2_with fail
     go_meet
     have r2:=heap_set_same (i:=1) (u:= .int .i64 lost) (heap_set_same (i:=0) (u:= .slice A1 0 c1) r_w1)
     simp at r2
     simp only [Nat.zero_add,List.nil_append] at hown1
     refine ⟨A1,c1,rfl,by simpa using r2,?_,byB⟩
     refine own_mono (ownsRow_setCell_below (ownsRow_setCell_below hown1 ?_ _) ?_ _) ?_<;>simp<;>omega
   case rest=>
    obtain ⟨A1,c1,rfl,r1,hown,hbw⟩:=hcut
    obtain ⟨q,_,_⟩:=blk r1
    go_wp2
    refine bodyPost_ret (v:= .tuple #[.agg #[.slice A1 0 c1,.int .i64 lost],.int .i64 v0]) (by simp [results,Try.results76,go_sem,q]) rfl ?_
    have hown':=hown
    obtain ⟨A2,c2,hv,hsl⟩:=sl_of_own (f:=fun n=>[Value.int .i64 n]) (hf:=fun _=>rfl) hown
    injection hv with e1 e2 e3
    subst e1;subst e3
    exact ⟨A1,c1,rfl,hsl.mono (fun _ h=>Or.inr h),hbw,.inr hown'⟩
  ·skip
   go_enter Try.func76,Try.ntmps76
   go_upto_region 3 with (fail)
   go_cut [3] (fun v wx=>∃A1 c1,v= .int .i64 v0∧wx.heap[w.heap.size+1]?=some (.cells #[.slice A1 vs.length c1,.int .i64 lost] 113)∧
    wx.ownsRow w.heap.size 3 1 (.slice A1 vs.length c1) vs.length (vs.flatMap fun n=>[Value.int .i64 n])∧Below w.heap.size w wx)
   case first=>
    go_region_held3 (fun w'=>w'.cell? ⟨w.heap.size,0,none⟩=some (.slice (some ⟨b,o,none⟩) (vs.length+1) c)∧w'.cell? ⟨w.heap.size,1,none⟩=some (.int .i64 lost)∧w'.cell? ⟨b,o,none⟩=some (.int .i64 v0)) (((try dsimp only);(repeat' apply And.intro)<;>(first|exact (Below.cell (B:=w.heap.size) (w:=w) byB (by assumption)).trans (by assumption)|go_keep|(simp [go_sem, *];done))))
     (first|(refine step_app ?_ (.tmp 9) (.tmp 12) _ ?_ (w.heap.size+2) tyInt (.slice (some ⟨w.heap.size+2,0,none⟩) 0 0) 0 [] ?_ ?_ (some ⟨b,o+1,none⟩) vs.length (c - 1) (vs.flatMap fun n=>[Value.int .i64 n]) ?_ ?_ (one_int _) ?_ ?_ ?_ ?_;rfl;rfl;rfl;exact (own_mono (base:=w.heap.size+2) (by repeat (first|with_reducible exact own_empty byS|(with_reducible refine World.ownsRow.alloc ?_ _)|(with_reducible refine own_drew ?_)|(with_reducible refine own_drewN ?_ _)|(with_reducible refine ownsRow_setCell_below ?_ ?_ _;rotate_left;(first|omega|(simp<;>omega))))) (by first|omega|exact Below.size (by assumption)|(simp<;>omega)));rfl;exact (ht.next hB byB).src;(first|(unfold maxLen;omega)|(simp only [maxLen];omega));(omega);(first|exact Nat.le_refl _|exact Below.size (by assumption)|omega|(simp<;>omega));intro A1 c1 w1 hown1 hg_w1 hat_w1;refine have_then (P:=w1.heap[w.heap.size+1]?=some (.cells #[.slice none 0 0,.int .i64 0] 113)) ?_ (fun r_w1=>?_);(focus (refine (hg_w1.block _ ?_ ?_).trans ?_;(first|omega|(simp<;>omega));(first|omega|exact Ne.symm (by assumption)|(intro e;have hlt:=(World.ownsRow.lt hown _ e.symm).1;omega)|(simp [Value.ownBlock]<;>omega));exact byH;done));obtain ⟨cr_w1,fr_w1,zr_w1⟩:=blk r_w1;refine have_then (P:=w1.heap[w.heap.size]?=some (.cells #[.slice (some ⟨b,o,none⟩) (vs.length+1) c,.int .i64 lost] 113)) ?_ (fun a_w1=>?_);(focus (refine (hg_w1.block _ ?_ ?_).trans ?_;(first|omega|(simp<;>omega));(first|omega|exact Ne.symm (by assumption)|(intro e;have hlt:=(World.ownsRow.lt hown _ e.symm).1;omega)|(simp [Value.ownBlock]<;>omega));exact byH;done));obtain ⟨ca_w1,fa_w1,za_w1⟩:=blk a_w1;refine have_then (P:=Below w.heap.size w w1) ?_ (fun h_w1=>?_);(focus (refine Below.grown ?_ hg_w1 ?_ ?_;(focus (exact byB;done));(first|exact Nat.le_refl _|exact Below.size (by assumption)|omega|(simp<;>omega));(intro kk hkk;first|(simp [Value.ownBlock] at hkk;omega)|(have hlt:=(World.ownsRow.lt hown kk hkk).1;omega));done));have s_w1:=Below.size h_w1))
    all_goals
     go_wp2_with fail
     go_meet
     have r2:=heap_set_same (i:=1) (u:= .int .i64 lost) (heap_set_same (i:=0) (u:= .slice A1 vs.length c1) r_w1)
     simp at r2
     simp only [Nat.zero_add,List.nil_append] at hown1
     refine ⟨A1,c1,rfl,by simpa using r2,?_,byB⟩
     refine own_mono (ownsRow_setCell_below (ownsRow_setCell_below hown1 ?_ _) ?_ _) ?_<;>simp<;>omega
   case rest=>
    obtain ⟨A1,c1,rfl,r1,hown,hbw⟩:=hcut
    obtain ⟨q,_,_⟩:=blk r1
    go_wp2
    refine bodyPost_ret (v:= .tuple #[.agg #[.slice A1 vs.length c1,.int .i64 lost],.int .i64 v0]) (by simp [results,Try.results76,go_sem,q]) rfl ?_
    have hown':=hown
    obtain ⟨A2,c2,hv,hsl⟩:=sl_of_own (f:=fun n=>[Value.int .i64 n]) (hf:=fun _=>rfl) hown
    injection hv with e1 e2 e3
    subst e1;subst e3
    exact ⟨A1,c1,rfl,hsl.mono (fun _ h=>Or.inr h),hbw,.inr hown'⟩
end Go.Proofs.Ytinlmkhlgclbfab
