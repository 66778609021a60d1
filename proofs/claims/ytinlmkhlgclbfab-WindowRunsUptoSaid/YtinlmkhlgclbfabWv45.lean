/- RefCacheB to Open -/
import Derived.Test.YtinlmkhlgclbfabWv08
import Derived.Laws.StructEq
import Derived.ProofKit
import Derived.Deep.Slices
import Derived.Lib.SmallJoins
import Derived.SizedLaws
section
namespace Go.Proofs.Ytinlmkhlgclbfab
open Go.RowKit
set_option maxRecDepth 100000
set_option maxHeartbeats 1000000
theorem anyI_succ (n:Nat)(p:Nat→Bool):anyI (n+1) p=(anyI n p||p n):=by
 unfold anyI;rw [List.range_succ,List.any_append];simp
theorem refCheckCache (c:List (List TWay))(A:Option Addr)(n B:Nat)(w:World)(hB:B≤w.heap.size)(hs:Sl cWay.slice (Low B) w A n c):
  Calls Try.prog 27 #[.agg #[.slice A c.length n]] w fun e w'=>e= .returned (.int .i64 (checkCache c))∧Below w.heap.size w w':=by
 have hm:c.length≤maxLen:=Nat.le_trans hs.cap hs.max
 unfold maxLen at hm
 by_cases h1:inB 1 c.length 4=true
 ·have h0:0 < c.length:=by have:=inB_true.1 h1;omega
  have hc4:c.length≤4:=by have:=inB_true.1 h1;omega
  have R1:=zH (show ∀i,i < c.length→inB 1 (nth c i).length 3=false→checkCache c=3 by
   intro i hi h;simp only [checkCache];rw [if_neg (by simp [h1]),if_pos (anyI_true.2 ⟨i,hi,by simp [h]⟩)])
  have R2:=zH (show (∀j,j < c.length→inB 1 (nth c j).length 3=true)→∀i,i < c.length→(nth c i).length≠(nth c 0).length→checkCache c=1 by
   intro h i hi hne;simp only [checkCache];rw [if_neg (by simp [h1]),if_neg (by rw [Bool.not_eq_true,anyI_false];intro j hj;simp [h j hj]),if_pos (anyI_true.2 ⟨i,hi,by simpa using hne⟩)])
  have R3:=zH (show (∀j,j < c.length→inB 1 (nth c j).length 3=true)→(∀j,j < c.length→(nth c j).length=(nth c 0).length)→checkCache c=firstE c.length (fun i=>setErr c.length i (nth c i)) by
   intro h h';simp only [checkCache];rw [if_neg (by simp [h1]),if_neg (by rw [Bool.not_eq_true,anyI_false];intro j hj;simp [h j hj]),if_neg (by rw [Bool.not_eq_true,anyI_false];intro j hj;simp [h' j hj])])
  go_enter Try.func27,Try.ntmps27
  go_wp2_with (go_at_call 48;refine (refBetween _ _ _ _).mono ?_;rintro e w' ⟨rfl,rfl⟩)
  go_loopw [3] (fun iv wr=>∃i:Nat,i≤c.length∧iv= .int .i64 i∧Hid (∀j,j < i→inB 1 (nth c j).length 3=true)∧wr.heap[w.heap.size]?=some (.cells #[.slice A c.length n] 63)∧Below w.heap.size w wr) (fun iv _=>c.length - (intOf iv).toNat)
  case atStart=>exact ⟨0,Nat.zero_le _,rfl,(fun j hj=>by omega),byH,byB⟩
  case round=>
   obtain ⟨i,hi,rfl,hq1,hp,hbr⟩:=hrel
   obtain ⟨cp,fp,zp⟩:=blk hp
   have so:=hbr.size
   by_cases hlt:i < c.length
   ·obtain ⟨b,o,A1,c1,rfl,hI,hcell,hin⟩:=(hs.next hB hbr).at_slice hlt
    have hi0:(0:Int)≤i:=by omega
    have hi1:(i:Int) < c.length:=by omega
    cases hb:inB 1 (nth c i).length 3
    ·have E:=zH hb
     go_wp2_with (go_at_call 48;refine (refBetween _ _ _ _).mono ?_;rintro e w' ⟨rfl,rfl⟩)
     go_ret
     exact ⟨ret_int (R1.out i hlt E.out).symm,hbr⟩
    ·have E:=zH hb
     go_wp2_with (go_at_call 48;refine (refBetween _ _ _ _).mono ?_;rintro e w' ⟨rfl,rfl⟩)
     go_roundw
     case rel=>exact ⟨i+1,by omega,by go_num,(fun j hj=>by
      by_cases e:j=i
      ·subst e;exact E.out
      ·exact hq1.out j (by omega)),byH,hbr⟩
     case measure=>simp [intOf];omega
   ·obtain rfl:i=c.length:=by omega
    obtain ⟨b,o,A1,c1,hA,hI,hcell,hin⟩:=(hs.next hB hbr).at_slice h0
    subst hA
    rw [Nat.add_zero] at hcell
    obtain ⟨wo,rfl⟩:∃wo:World,wo=wr:=⟨_,rfl⟩
    have hm1:(nth c 0).length≤9223372036854775807:=by have:=inB_true.1 (hq1.out 0 h0);omega
    have hbl0:b < wo.heap.size:=Nat.lt_of_lt_of_le hI (Nat.le_trans hB so)
    have hq0:(0:Int) < c.length:=by omega
    go_wp2_with fail
    go_loopw [4] (fun iv wr=>∃i:Nat,i≤c.length∧iv= .int .i64 i∧Hid (∀j,j < i→(nth c j).length=(nth c 0).length)∧wr.heap[w.heap.size]?=some (.cells #[.slice (some ⟨b,o,none⟩) c.length n] 63)∧Below wo.heap.size wo wr) (fun iv _=>c.length - (intOf iv).toNat)
    case atStart=>exact ⟨0,Nat.zero_le _,rfl,(fun j hj=>by omega),byH,Below.refl _ _⟩
    case round=>
     obtain ⟨i,hi,rfl,hq2,hp,hbi⟩:=hrel
     obtain ⟨cp,fp,zp⟩:=blk hp
     have si:=hbi.size
     have hbw:Below w.heap.size w wr:=hbr.trans (hbi.mono so)
     have hcell0:wr.cell? ⟨b,o,none⟩=some (.slice A1 (nth c 0).length c1):=(hbi.cell (p:=⟨b,o,none⟩) hbl0).trans hcell
     by_cases hlt:i < c.length
     ·obtain ⟨b',o',A2,c2,hA,hI',hcell',hin'⟩:=(hs.next hB hbw).at_slice hlt
      injection hA with hA;injection hA with e1 e2
      subst e1;subst e2
      have hm2:(nth c i).length≤9223372036854775807:=by have:=inB_true.1 (hq1.out i hlt);omega
      have hi0:(0:Int)≤i:=by omega
      have hi1:(i:Int) < c.length:=by omega
      by_cases hl:(nth c i).length=(nth c 0).length
      ·have hb:(((nth c i).length:Int) !=((nth c 0).length:Int))=false:=by simp [hl]
       have E:=zH hl
       clear hl
       go_wp2_with fail
       go_quiet (fail)
       go_wp2_with fail
       go_roundw
       case rel=>exact ⟨i+1,by omega,by go_num,(fun j hj=>by
        by_cases e:j=i
        ·subst e;exact E.out
        ·exact hq2.out j (by omega)),byH,below_drewN hbi _⟩
       case measure=>simp [intOf];omega
      ·have hb:(((nth c i).length:Int) !=((nth c 0).length:Int))=true:=by rw [bne_iff_ne];omega
       have E:=zH hl
       clear hl
       go_wp2_with fail
       go_quiet (fail)
       go_wp2_with fail
       go_ret
       exact ⟨ret_int (R2.out hq1.out i hlt E.out).symm,below_drewN hbw _⟩
     ·obtain rfl:i=c.length:=by omega
      obtain ⟨wp,rfl⟩:∃wp:World,wp=wr:=⟨_,rfl⟩
      have R:=zH (R3.out hq1.out hq2.out)
      have sp:=hbw.size
      have hbl:b < wp.heap.size:=by omega
      go_wp2_with fail
      go_loopw [5] (fun iv wr=>∃i:Nat,i≤c.length∧iv= .int .i64 i∧Hid (∀j,j < i→setErr c.length j (nth c j)=0)∧wr.heap[w.heap.size]?=some (.cells #[.slice (some ⟨b,o,none⟩) c.length n] 63)∧Below wp.heap.size wp wr) (fun iv _=>c.length - (intOf iv).toNat)
      case atStart=>exact ⟨0,Nat.zero_le _,rfl,(fun j hj=>by omega),byH,Below.refl _ _⟩
      case round=>
       obtain ⟨i,hi,rfl,hq3,hp,hbj⟩:=hrel
       obtain ⟨cp,fp,zp⟩:=blk hp
       have sj:=hbj.size
       have hbv:Below w.heap.size w wr:=hbw.trans (hbj.mono sp)
       have sv:=hbv.size
       obtain ⟨wv,rfl⟩:∃wv:World,wv=wr:=⟨_,rfl⟩
       by_cases hlt:i < c.length
       ·obtain ⟨b',o',A2,c2,hA,hI',hcell',hin'⟩:=(hs.next hB hbv).at_slice hlt
        injection hA with hA;injection hA with e1 e2
        subst e1;subst e2
        have hm2:(nth c i).length≤3:=by have:=inB_true.1 (hq1.out i hlt);omega
        have hi0:(0:Int)≤i:=by omega
        have hi1:(i:Int) < c.length:=by omega
        have hbl2:b < wv.heap.size:=by omega
        go_wp2_with fail
        go_loopw [6] (fun kv wr=>∃k:Nat,k≤(nth c i).length∧kv= .int .i64 k∧Hid (∀j,j < k→wayErr c.length i (nth c i) j=0)∧wr.heap[w.heap.size]?=some (.cells #[.slice (some ⟨b,o,none⟩) c.length n] 63)∧Below wv.heap.size wv wr) (fun kv _=>(nth c i).length - (intOf kv).toNat)
        case atStart=>exact ⟨0,Nat.zero_le _,rfl,(fun j hj=>by omega),byH,Below.refl _ _⟩
        case round=>
         obtain ⟨k,hk,rfl,hq4,hp,hbk⟩:=hrel
         obtain ⟨cp,fp,zp⟩:=blk hp
         have sk:=hbk.size
         have hbu:Below w.heap.size w wr:=hbv.trans (hbk.mono sv)
         have su:=hbu.size
         obtain ⟨wu,rfl⟩:∃wu:World,wu=wr:=⟨_,rfl⟩
         have hcellu:wu.cell? ⟨b,o+i,none⟩=some (.slice A2 (nth c i).length c2):=(hbk.cell (p:=⟨b,o+i,none⟩) hbl2).trans hcell'
         have hinu:=hin'.next (Nat.le_trans hB sv) hbk
         by_cases hkt:k < (nth c i).length
         ·obtain ⟨b2,o2,rfl,hI2,hc0,hc1⟩:=hinu.at_way hkt
          have hbb2:b2 < wu.heap.size:=Nat.lt_of_lt_of_le hI2 (Nat.le_trans hB su)
          have hbbu:b < wu.heap.size:=by omega
          have hk0:(0:Int)≤k:=by omega
          have hk1:(k:Int) < (nth c i).length:=by omega
          have hset:wayErr c.length i (nth c i) k≠0→setErr c.length i (nth c i)=wayErr c.length i (nth c i) k:=fun h=>firstE_hit hkt hq4.out h
          have hfin:wayErr c.length i (nth c i) k≠0→checkCache c=wayErr c.length i (nth c i) k:=fun h=>by rw [R.out,firstE_hit hlt hq3.out (by rw [hset h];exact h),hset h]
          have hnext:wayErr c.length i (nth c i) k=0→∀j,j < k+1→wayErr c.length i (nth c i) j=0:=fun h j hj=>by
           by_cases e:j=k
           ·subst e;exact h
           ·exact hq4.out j (by omega)
          have HF:=zH hfin
          have HN:=zH hnext
          have HW:=zH (show wayErr c.length i (nth c i) k=_ from rfl)
          clear hset hfin hnext
          by_cases hr:inB 0 (nth (nth c i) k).line 1000=true
          ·obtain ⟨l0,l1⟩:=inB_true.1 hr
           by_cases hz:(nth (nth c i) k).line=0
           ·have hzb:((nth (nth c i) k).line==0)=true:=by simp [hz]
            cases hd:(nth (nth c i) k).dirty
            ·rw [hd] at hc1
             have E:=zH (show wayErr c.length i (nth c i) k=0 by simp only [wayErr];rw [if_neg (by simp [hr]),if_pos hz,hd];rfl)
             clear hz hd
             go_wp2_with (go_at_call 48;refine (refBetween _ _ _ _).mono ?_;rintro e w' ⟨rfl,rfl⟩)
             go_roundw
             case rel=>exact ⟨k+1,by omega,by go_num,HN.out E.out,byH,byB⟩
             case measure=>simp [intOf];omega
            ·rw [hd] at hc1
             have E:=zH (show wayErr c.length i (nth c i) k=1 by simp only [wayErr];rw [if_neg (by simp [hr]),if_pos hz,hd];rfl)
             clear hz hd
             go_wp2_with (go_at_call 48;refine (refBetween _ _ _ _).mono ?_;rintro e w' ⟨rfl,rfl⟩)
             go_ret
             exact ⟨ret_int (by rw [HF.out (by rw [E.out];decide),E.out]),byB⟩
           ·have hzb:((nth (nth c i) k).line==0)=false:=by simp [hz]
            by_cases hmo:(nth (nth c i) k).line % (c.length:Int)=i
            ·have hmb:((nth (nth c i) k).line % (c.length:Int) !=(i:Int))=false:=by simp [hmo]
             have E:=zH (show wayErr c.length i (nth c i) k=if anyI k (fun j=>(nth (nth c i) j).line==(nth (nth c i) k).line) then 6 else if anyI k (fun j=>(nth (nth c i) j).line==0) then 4 else 0 by simp only [wayErr];rw [if_neg (by simp [hr]),if_neg hz,if_neg (by simpa using hmo)])
             clear hz hmo
             go_wp2_with (go_at_call 48;refine (refBetween _ _ _ _).mono ?_;rintro e w' ⟨rfl,rfl⟩)
             go_loopw [8,9,10] (fun tv ev jv wr=>∃m:Nat,m≤k∧jv= .int .i64 m∧tv= .bool (anyI m (fun j=>(nth (nth c i) j).line==(nth (nth c i) k).line))∧ev= .bool (anyI m (fun j=>(nth (nth c i) j).line==0))∧wr.heap[w.heap.size]?=some (.cells #[.slice (some ⟨b,o,none⟩) c.length n] 63)∧
              wr.heap[wu.heap.size]?=some (.cells #[.int .i64 (nth (nth c i) k).line,.bool (nth (nth c i) k).dirty] 126)∧Below wu.heap.size wu wr) (fun _ _ jv _=>k - (intOf jv).toNat)
             case atStart=>exact ⟨0,Nat.zero_le _,rfl,rfl,rfl,byH,byH,byB⟩
             case round=>
              obtain ⟨m,hmk,rfl,rfl,rfl,hp,hwy,hbm⟩:=hrel
              obtain ⟨cp,fp,zp⟩:=blk hp
              obtain ⟨cw,fw,zw⟩:=blk hwy
              have sm:=hbm.size
              by_cases hmt:m < k
              ·have hcellm:wr.cell? ⟨b,o+i,none⟩=some (.slice (some ⟨b2,o2,none⟩) (nth c i).length c2):=(hbm.cell (p:=⟨b,o+i,none⟩) hbbu).trans hcellu
               obtain ⟨b3,o3,hA3,hI3,hd0,hd1⟩:=(hinu.next (Nat.le_trans hB su) hbm).at_way (show m < (nth c i).length by omega)
               injection hA3 with hA3;injection hA3 with e1 e2
               subst e1;subst e2
               have hm0:(0:Int)≤m:=by omega
               have hm1:(m:Int) < (nth c i).length:=by omega
               have S1:=zH (anyI_succ m (fun j=>(nth (nth c i) j).line==(nth (nth c i) k).line))
               have S2:=zH (anyI_succ m (fun j=>(nth (nth c i) j).line==0))
               generalize anyI m (fun j=>(nth (nth c i) j).line==(nth (nth c i) k).line)=tw at*
               generalize anyI m (fun j=>(nth (nth c i) j).line==0)=em at*
               cases hx:((nth (nth c i) m).line==(nth (nth c i) k).line)<;>cases hy:((nth (nth c i) m).line==0)<;>cases tw<;>cases em
               all_goals
                have HX:=zH hx
                have HY:=zH hy
                go_wp2_with fail
                go_quiet (fail)
                go_wp2_with fail
                go_roundw
                case rel=>exact ⟨m+1,by omega,by go_num,by rw [S1.out];simp [HX.out],by rw [S2.out];simp [HY.out],byH,byH,below_drewN hbm _⟩
                case measure=>simp [intOf];omega
              ·obtain rfl:m=k:=by omega
               generalize anyI m (fun j=>(nth (nth c i) j).line==(nth (nth c i) m).line)=tw at*
               generalize anyI m (fun j=>(nth (nth c i) j).line==0)=em at*
               cases tw<;>cases em
               all_goals
                have E2:=zH E.out
                simp only [Bool.false_eq_true,if_false,if_true] at E2
                go_wp2_with fail
                first
                 |(go_ret;exact ⟨ret_int (by rw [HF.out (by rw [E2.out];decide),E2.out]),byB⟩)
                 |(go_roundw;(case rel=>exact ⟨m+1,by omega,by go_num,HN.out E2.out,byH,hbk.trans (hbm.mono sk)⟩);(case measure=>(simp [intOf];omega)))
            ·have hmb:((nth (nth c i) k).line % (c.length:Int) !=(i:Int))=true:=by simp [hmo]
             have E:=zH (show wayErr c.length i (nth c i) k=4 by simp only [wayErr];rw [if_neg (by simp [hr]),if_neg hz,if_pos (by simpa using hmo)])
             clear hz hmo
             go_wp2_with (go_at_call 48;refine (refBetween _ _ _ _).mono ?_;rintro e w' ⟨rfl,rfl⟩)
             go_ret
             exact ⟨ret_int (by rw [HF.out (by rw [E.out];decide),E.out]),byB⟩
          ·have hr:inB 0 (nth (nth c i) k).line 1000=false:=by simpa using hr
           have E:=zH (show wayErr c.length i (nth c i) k=3 by simp only [wayErr];rw [if_pos hr])
           go_wp2_with (go_at_call 48;refine (refBetween _ _ _ _).mono ?_;rintro e w' ⟨rfl,rfl⟩)
           go_ret
           exact ⟨ret_int (by rw [HF.out (by rw [E.out];decide),E.out]),byB⟩
         ·obtain rfl:k=(nth c i).length:=by omega
          go_wp2_with fail
          go_roundw
          case rel=>exact ⟨i+1,by omega,by go_num,(fun j hj=>by
           by_cases e:j=i
           ·subst e;exact firstE_none hq4.out
           ·exact hq3.out j (by omega)),byH,hbj.trans (hbk.mono sj)⟩
          case measure=>simp [intOf];omega
       ·obtain rfl:i=c.length:=by omega
        go_wp2_with fail
        go_ret
        exact ⟨ret_int (by rw [R.out,firstE_none hq3.out]),hbv⟩
 ·have h1:inB 1 c.length 4=false:=by simpa using h1
  have R:=zH (show checkCache c=3 by simp only [checkCache];rw [if_pos h1])
  clear hs
  go_enter Try.func27,Try.ntmps27
  go_wp2_with (go_at_call 48;refine (refBetween _ _ _ _).mono ?_;rintro e w' ⟨rfl,rfl⟩)
  go_ret
  exact ⟨ret_int R.out.symm,byB⟩
end Go.Proofs.Ytinlmkhlgclbfab
end

section
namespace Go.Proofs.Ytinlmkhlgclbfab
open Go.RowKit
set_option maxRecDepth 100000
set_option maxHeartbeats 400000
theorem neqWay (x y:TWay)(w:World):(binOp .neq 126 (.agg #[.int .i64 x.line,.bool x.dirty]) (.agg #[.int .i64 y.line,.bool y.dirty])).run Try.prog w= .ok (.bool (diffT x y)) w:=by
 have hf:=congrArg (fun u:Option TypeDesc=>match u with|some (.struct fs)=>fs|_=>#[]) Try.underlying126
 change Try.prog.fieldsOf 126=_ at hf
 simp only at hf
 rw [run_neq_struct,run_equalIn_agg _ _ _ _ _ (by rw [hf];exact Try.underlying126) (by kernel_rfl),hf]
 have u1:=Try.underlying3
 have u2:=Try.underlying4
 have hd:diffT x y= !(x.line==y.line&&x.dirty==y.dirty):=by
  unfold diffT
  congr 1
  rw [Bool.eq_iff_iff]
  cases x;cases y;simp [and_assoc]
 rw [hd]
 clear hd
 simp [Op.eqFields,go_sem, *]
 (repeat' split)<;>simp_all
theorem guardWay:Try.prog.eqGuardType Try.prog.depth 126=false:=by kernel_rfl
end Go.Proofs.Ytinlmkhlgclbfab
end

section
namespace Go.Proofs.Ytinlmkhlgclbfab
open Go.RowKit
set_option maxRecDepth 100000
set_option maxHeartbeats 1000000
theorem refSameCache (c d:List (List TWay))(A A':Option Addr)(n n' B:Nat)(w:World)(hB:B≤w.heap.size)(hs:Sl cWay.slice (Low B) w A n c)(ht:Sl cWay.slice (Low B) w A' n' d)(hl3:∀i,i < c.length→(nth c i).length≤1000000):
  Calls Try.prog 69 #[.agg #[.slice A c.length n],.agg #[.slice A' d.length n']] w fun e w'=>e= .returned (.bool (decide (c=d)))∧Below w.heap.size w w':=by
 have hm:c.length≤maxLen:=Nat.le_trans hs.cap hs.max
 have hm':d.length≤maxLen:=Nat.le_trans ht.cap ht.max
 unfold maxLen at hm hm'
 by_cases hl:c.length=d.length
 ·have hb:((c.length:Int) !=(d.length:Int))=false:=by simp [hl]
  have HL:=zH hl
  clear hl
  go_enter Try.func69,Try.ntmps69
  go_wp2_with fail
  go_loopw [5] (fun iv wr=>∃i:Nat,i≤c.length∧iv= .int .i64 i∧Hid (∀j,j < i→nth c j=nth d j)∧wr.heap[w.heap.size]?=some (.cells #[.slice A c.length n] 63)∧wr.heap[w.heap.size+1]?=some (.cells #[.slice A' d.length n'] 63)∧Below w.heap.size w wr) (fun iv _=>c.length - (intOf iv).toNat)
  case atStart=>exact ⟨0,Nat.zero_le _,rfl,(fun j hj=>by omega),byH,byH,byB⟩
  case round=>
   obtain ⟨i,hi,rfl,hq,hp,hr,hbr⟩:=hrel
   obtain ⟨cp,fp,zp⟩:=blk hp
   obtain ⟨cr,fr,zr⟩:=blk hr
   have so:=hbr.size
   obtain ⟨wo,rfl⟩:∃wo:World,wo=wr:=⟨_,rfl⟩
   by_cases hlt:i < c.length
   ·have hlt':i < d.length:=by have:=HL.out;omega
    obtain ⟨b,o,A1,c1,rfl,hI,hcell,hin⟩:=(hs.next hB hbr).at_slice hlt
    obtain ⟨b',o',A2,c2,rfl,hI',hcell',hin'⟩:=(ht.next hB hbr).at_slice hlt'
    have hw3:=hl3 i hlt
    have hmx:(nth d i).length≤maxLen:=Nat.le_trans hin'.cap hin'.max
    unfold maxLen at hmx
    have hi0:(0:Int)≤i:=by omega
    have hi1:(i:Int) < c.length:=by omega
    have hi2:(i:Int) < d.length:=by omega
    have hbl:b < wo.heap.size:=Nat.lt_of_lt_of_le hI (Nat.le_trans hB so)
    have hbl':b' < wo.heap.size:=Nat.lt_of_lt_of_le hI' (Nat.le_trans hB so)
    by_cases hll:(nth c i).length=(nth d i).length
    ·have hb2:(((nth c i).length:Int) !=((nth d i).length:Int))=false:=by simp [hll]
     have HLL:=zH hll
     clear hll
     go_wp2_with fail
     go_quiet (fail)
     go_wp2_with fail
     go_loopw [6] (fun kv wr=>∃k:Nat,k≤(nth c i).length∧kv= .int .i64 k∧Hid (∀j,j < k→nth (nth c i) j=nth (nth d i) j)∧wr.heap[w.heap.size]?=some (.cells #[.slice (some ⟨b,o,none⟩) c.length n] 63)∧wr.heap[w.heap.size+1]?=some (.cells #[.slice (some ⟨b',o',none⟩) d.length n'] 63)∧Below wo.heap.size wo wr) (fun kv _=>(nth c i).length - (intOf kv).toNat)
     case atStart=>exact ⟨0,Nat.zero_le _,rfl,(fun j hj=>by omega),byH,byH,below_drewN (Below.refl _ _) _⟩
     case round=>
      obtain ⟨k,hk,rfl,hq2,hp,hr,hbk⟩:=hrel
      obtain ⟨cp,fp,zp⟩:=blk hp
      obtain ⟨cr,fr,zr⟩:=blk hr
      have sk:=hbk.size
      have hbu:Below w.heap.size w wr:=hbr.trans (hbk.mono so)
      have hcellu:wr.cell? ⟨b,o+i,none⟩=some (.slice A1 (nth c i).length c1):=(hbk.cell (p:=⟨b,o+i,none⟩) hbl).trans hcell
      have hcellu':wr.cell? ⟨b',o'+i,none⟩=some (.slice A2 (nth d i).length c2):=(hbk.cell (p:=⟨b',o'+i,none⟩) hbl').trans hcell'
      by_cases hkt:k < (nth c i).length
      ·have hkt':k < (nth d i).length:=by have:=HLL.out;omega
       obtain ⟨b2,o2,rfl,hI2,hc0,hc1⟩:=(hin.next (Nat.le_trans hB so) hbk).at_way hkt
       obtain ⟨b3,o3,rfl,hI3,hd0,hd1⟩:=(hin'.next (Nat.le_trans hB so) hbk).at_way hkt'
       have hk0:(0:Int)≤k:=by omega
       have hk1:(k:Int) < (nth c i).length:=by omega
       have hk2:(k:Int) < (nth d i).length:=by omega
       have hneq:=fun w=>neqWay (nth (nth c i) k) (nth (nth d i) k) w
       have hgd:=guardWay
       cases hdf:diffT (nth (nth c i) k) (nth (nth d i) k)
       ·have E:=zH (diffT_false.1 hdf)
        go_wp2_with fail
        go_quiet (fail)
        go_wp2_with fail
        go_roundw
        case rel=>exact ⟨k+1,by omega,by go_num,(fun j hj=>by
         by_cases e:j=k
         ·subst e;exact E.out
         ·exact hq2.out j (by omega)),byH,byH,below_drewN hbk _⟩
        case measure=>simp [intOf];omega
       ·have E:=zH (diffT_true.1 hdf)
        go_wp2_with fail
        go_quiet (fail)
        go_wp2_with fail
        go_ret
        exact ⟨ret_bool (by rw [eq_comm,decide_eq_false_iff_not];intro e;exact E.out (by rw [e])),below_drewN hbu _⟩
      ·obtain rfl:k=(nth c i).length:=by omega
       go_wp2_with fail
       go_roundw
       case rel=>exact ⟨i+1,by omega,by go_num,(fun j hj=>by
        by_cases e:j=i
        ·subst e
         refine List.ext_getElem HLL.out fun q h1 h2=>?_
         rw [← nth_eq h1,← nth_eq h2]
         exact hq2.out q h1
        ·exact hq.out j (by omega)),byH,byH,hbu⟩
       case measure=>simp [intOf];omega
    ·have hb2:(((nth c i).length:Int) !=((nth d i).length:Int))=true:=by rw [bne_iff_ne];omega
     have E:=zH hll
     clear hll
     go_wp2_with fail
     go_quiet (fail)
     go_wp2_with fail
     go_ret
     exact ⟨ret_bool (by rw [eq_comm,decide_eq_false_iff_not];intro e;exact E.out (by rw [e])),below_drewN hbr _⟩
   ·obtain rfl:i=c.length:=by omega
    go_wp2_with fail
    go_ret
    exact ⟨ret_bool (by
     rw [eq_comm,decide_eq_true_iff]
     refine List.ext_getElem HL.out fun q h1 h2=>?_
     rw [← nth_eq h1,← nth_eq h2]
     exact hq.out q h1),hbr⟩
 ·have hb:((c.length:Int) !=(d.length:Int))=true:=by rw [bne_iff_ne];omega
  have HL:=zH hl
  clear hl
  go_enter Try.func69,Try.ntmps69
  go_wp2_with fail
  go_ret
  exact ⟨ret_bool (by rw [eq_comm,decide_eq_false_iff_not];intro e;exact HL.out (by rw [e])),byB⟩
def cacheIs (x:List (List TWay)) (e wn:Int) (y:List (List TWay)):Bool:=decide (e=wn)&&decide (x=if wn=0 then y else [])
theorem lawCacheIs (x y:List (List TWay))(e wn:Int)(A A':Option Addr)(n n' B:Nat)(w:World)(hB:B≤w.heap.size)(hs:Sl cWay.slice (Low B) w A n x)(ht:Sl cWay.slice (Low B) w A' n' y)(hl3:∀i,i < x.length→(nth x i).length≤1000000):
  Calls Try.prog 31 #[.agg #[.slice A x.length n],.int .i64 e,.int .i64 wn,.agg #[.slice A' y.length n']] w fun en w'=>en= .returned (.bool (cacheIs x e wn y))∧Below w.heap.size w w':=by
 have H1:=zH (fun W (h:Below w.heap.size w W)=>refSameCache x y A A' n n' B W (Nat.le_trans hB h.size) (hs.next hB h) (ht.next hB h) hl3)
 have H2:=zH (fun W (h:Below w.heap.size w W)=>refSameCache x [] A none n 0 B W (Nat.le_trans hB h.size) (hs.next hB h) (Sl.empty _ _ _) hl3)
 clear hs ht
 by_cases h1:e=wn
 ·have b1:(e==wn)=true:=by simp [h1]
  by_cases h2:wn=0
  ·have b2:(wn !=0)=false:=by simp [h2]
   have E:=zH (show cacheIs x e wn y=decide (x=y) by simp [cacheIs,h1,h2])
   clear h1 h2
   go_enter Try.func31,Try.ntmps31
   go_wp2_with (go_at_call 69;refine (H1.out _ byB).mono ?_;rintro e w1 ⟨rfl,hb1⟩)
   go_ret
   rw [E.out]
   exact ⟨ret_bool (by simp),byB⟩
  ·have b2:(wn !=0)=true:=by simp [h2]
   have E:=zH (show cacheIs x e wn y=decide (x=[]) by simp [cacheIs,h1,h2])
   clear h1 h2
   go_enter Try.func31,Try.ntmps31
   go_wp2_with (go_at_call 69;refine (H2.out _ byB).mono ?_;rintro e w1 ⟨rfl,hb1⟩)
   go_ret
   rw [E.out]
   exact ⟨ret_bool (by simp),byB⟩
 ·have b1:(e==wn)=false:=by simp [h1]
  have E:=zH (show cacheIs x e wn y=false by simp [cacheIs,h1])
  by_cases h2:wn=0
  ·have b2:(wn !=0)=false:=by simp [h2]
   clear h1 h2
   go_enter Try.func31,Try.ntmps31
   go_wp2
   go_ret
   rw [E.out]
   exact ⟨ret_bool (by simp),byB⟩
  ·have b2:(wn !=0)=true:=by simp [h2]
   clear h1 h2
   go_enter Try.func31,Try.ntmps31
   go_wp2
   go_ret
   rw [E.out]
   exact ⟨ret_bool (by simp),byB⟩
end Go.Proofs.Ytinlmkhlgclbfab
end

section
namespace Go.Proofs.Ytinlmkhlgclbfab
open Go.RowKit Go.Deep
def Cod.pair {S T:Type} (a:Cod S) (b:Cod T):Cod (S×T) where
 size:=a.size+b.size
 rel:=fun I w cs x=>∃c1 c2,cs=c1++c2∧a.rel I w c1 x.1∧b.rel I w c2 x.2
 len:=fun {_ _ _ _} ⟨_,_,h,h1,h2⟩=>by rw [h,List.length_append,a.len h1,b.len h2]
 keep:=fun ⟨c1,c2,h,h1,h2⟩ hk=>⟨c1,c2,h,a.keep h1 hk,b.keep h2 hk⟩
 mono:=fun ⟨c1,c2,h,h1,h2⟩ hk=>⟨c1,c2,h,a.mono h1 hk,b.mono h2 hk⟩
def Cod.via {S T:Type} (f:S→T) (c:Cod T):Cod S where
 size:=c.size
 rel:=fun I w cs x=>c.rel I w cs (f x)
 len:=fun h=>c.len h
 keep:=fun h hk=>c.keep h hk
 mono:=fun h hk=>c.mono h hk
def Opens (P:Program) {T:Type} (e:Cod T) (ok:T→Prop) (t:TypeId):Prop:=
 P.cellsOf t=e.size∧∀(H:Type) (enc:TypeId×Value→H) (w:World) (fuel:Nat) (cs:List Value) (x:DataW H×List MemPlace),
  DataW.trod enc P w 0 (fun _=>true) true fuel t cs=some x→(x.1.weights P t).all (· ≤reachBytes)=true→∃y,e.rel (Low w.heap.size) w cs y∧ok y
def okInt (n:Int):Prop:= -9223372036854775808≤n∧n≤9223372036854775807
def okAny {T:Type} (_:T):Prop:=True
def okList {T:Type} (ok:T→Prop) (bytes:Nat) (xs:List T):Prop:=xs.length*bytes≤reachBytes∧∀x∈xs,ok x
theorem okInt_of {n:Int}(h:(Lit.int .i64 n).wf=true):okInt n:=by
 simp [Lit.wf,IntKind.min,IntKind.max,IntKind.signed,IntKind.bits] at h
 exact h
theorem opens_int {P:Program}{t:TypeId}(ht:P.underlying t=some (.int .i64))(hc:P.cellsOf t=1):Opens P cInt okInt t:=by
 refine ⟨hc,fun H enc w fuel cs x h _=>?_⟩
 obtain ⟨n,rfl,rfl,hw⟩:=DataW.trod_int ht h
 exact ⟨n,rfl,okInt_of hw⟩
theorem opens_bool {P:Program}{t:TypeId}(ht:P.underlying t=some .bool)(hc:P.cellsOf t=1):Opens P cBool okAny t:=by
 refine ⟨hc,fun H enc w fuel cs x h _=>?_⟩
 obtain ⟨n,rfl,rfl⟩:=DataW.trod_bool ht h
 exact ⟨n,rfl,trivial⟩
theorem weightsAll_mem {H:Type}{P:Program}{e:TypeId}{l:List (DataW H)}(h:(DataW.weightsAll P e l).all (· ≤reachBytes)=true):∀d∈l,(d.weights P e).all (· ≤reachBytes)=true:=by
 induction l with
 |nil=>intro d hd;simp at hd
 |cons a l ih=>
  intro d hd
  simp only [DataW.weightsAll,List.all_append,Bool.and_eq_true] at h
  rcases List.mem_cons.1 hd with rfl|hd
  ·exact h.1
  ·exact ih h.2 d hd
theorem opens_slice {P:Program}{T:Type}[Inhabited T]{e:Cod T}{ok:T→Prop}{t el:TypeId}{bytes:Nat}(ht:P.underlying t=some (.slice el))(hc:P.cellsOf t=1)(hb:P.bytesOf el=bytes)(hpos:0 < e.size)(he:Opens P e ok el):
  Opens P e.slice (okList ok bytes) t:=by
 refine ⟨hc,fun H enc w fuel cs x h hsz=>?_⟩
 rcases open_slice ht h with ⟨rfl,rfl⟩|⟨a,len,cap,m,n,D,Pl,rfl,_,hl,hm,hmm,rfl,hx⟩
 ·exact ⟨[],⟨none,0,rfl,Sl.empty _ _ _⟩,by simp [okList]⟩
 ·have hmc:m=cap:=by simpa using hmm
  subst hmc
  simp only [DataW.weights,ht,List.all_cons,List.all_append,Bool.and_eq_true,List.length_map,List.length_range,hb,decide_eq_true_eq] at hsz
  obtain ⟨hs0,hs1,_⟩:=hsz
  have hD:=weightsAll_mem hs1
  rw [he.1] at hx
  obtain ⟨f,hf⟩:=choose_lt (α:=T) (p:=fun i y=>∃cs',w.cells? 0 (a.add (i*e.size)) e.size=some cs'∧e.rel (Low w.heap.size) w cs' y∧ok y) (n:=len) (fun i hi=>by
   obtain ⟨cs',h1,h2⟩:=hx i (by omega)
   obtain ⟨y,h3,h4⟩:=he.2 H enc w n cs' _ h2 (hD _ (List.mem_map.2 ⟨i,List.mem_range.2 hi,rfl⟩))
   exact ⟨y,cs',h1,h3,h4⟩)
  refine ⟨(List.range len).map f,⟨some a,m,by simp,by simpa using hl,hm,(fun h=>by cases h),fun i hi=>?_⟩,?_,?_⟩
  ·have hi':i < len:=by simpa using hi
   obtain ⟨cs',h1,h3,h4⟩:=hf i hi'
   obtain ⟨_,hlen,hcell⟩:=World.cells?_some h1
   obtain ⟨v,hv⟩:∃v,cs'[0]?=some v:=⟨cs'[0]'(by omega),List.getElem?_eq_getElem (by omega)⟩
   have hc0:=(hcell 0 hpos).trans hv
   obtain ⟨cs0,h10,_,_⟩:=hf 0 (by omega)
   obtain ⟨_,hlen0,hcell0⟩:=World.cells?_some h10
   obtain ⟨v0,hv0⟩:∃v,cs0[0]?=some v:=⟨cs0[0]'(by omega),List.getElem?_eq_getElem (by omega)⟩
   have hc00:=(hcell0 0 hpos).trans hv0
   obtain ⟨b,o,spot⟩:=a
   have hspot:spot=none:=by simpa [Addr.add] using World.cell?_spot hc00
   subst hspot
   have hlt:b < w.heap.size:=by
    rw [Go.WideShapes.add_plain,Go.WideShapes.add_plain] at hc0
    unfold World.cell? at hc0
    split at hc0
    ·rename_i heq;exact (Array.getElem?_eq_some_iff.1 heq).1
    ·cases hc0
   refine ⟨b,o,cs',rfl,hlt,by simpa using h3,fun j u hu=>?_⟩
   have hj:j < e.size:=by have:=(List.getElem?_eq_some_iff.1 hu).1;omega
   have:=hcell j hj
   rw [Go.WideShapes.add_plain,Go.WideShapes.add_plain] at this
   exact this.trans hu
  ·simp only [List.length_map,List.length_range]
   exact Nat.le_trans (Nat.mul_le_mul_right _ (by omega)) hs0
  ·intro x hx
   obtain ⟨i,hi,rfl⟩:=List.mem_map.1 hx
   obtain ⟨_,_,_,h4⟩:=hf i (List.mem_range.1 hi)
   exact h4
def OpensF (P:Program) {T:Type} (e:Cod T) (ok:T→Prop) (off:Nat) (ts:List TypeId) (offs:List Nat):Prop:=
 ∀(H:Type) (enc:TypeId×Value→H) (w:World) (fuel:Nat) (cs:List Value) (xs:List (DataW H×List MemPlace)),off+e.size=cs.length→
  xs.length=ts.length→(∀(i t o:Nat),ts[i]?=some t→offs[i]?=some o→DataW.trod enc P w 0 (fun _=>true) true fuel t ((cs.drop o).take (P.cellsOf t))=xs[i]?)→
  (DataW.weightsEach P ts (xs.map (·.1))).all (· ≤reachBytes)=true→∃y,e.rel (Low w.heap.size) w (cs.drop off) y∧ok y
theorem opensF_one {P:Program}{T:Type}{e:Cod T}{ok:T→Prop}{t:TypeId}{off:Nat}(h:Opens P e ok t):OpensF P e ok off [t] [off]:=by
 intro H enc w fuel cs xs hl hx hf hw
 match xs,hx with
 |[x],_=>
  have h1:=hf 0 t off rfl rfl
  simp only [DataW.weightsEach,List.map_cons,List.map_nil,List.append_nil] at hw
  rw [h.1,List.take_of_length_le (by simp;omega)] at h1
  exact h.2 H enc w fuel _ x h1 hw
theorem opensF_cons {P:Program}{S T:Type}{a:Cod S}{e:Cod T}{oka:S→Prop}{ok:T→Prop}{t:TypeId}{off off':Nat}{ts:List TypeId}{offs:List Nat}(h:Opens P a oka t)(h':OpensF P e ok off' ts offs)(ho:off'=off+a.size):
  OpensF P (a.pair e) (fun y=>oka y.1∧ok y.2) off (t::ts) (off::offs):=by
 intro H enc w fuel cs xs hl hx hf hw
 subst ho
 match xs,hx with
 |x::xs,hx=>
  have h1:=hf 0 t off rfl rfl
  simp only [DataW.weightsEach,List.map_cons,List.all_append,Bool.and_eq_true] at hw
  rw [h.1] at h1
  obtain ⟨y1,r1,k1⟩:=h.2 H enc w fuel _ x h1 hw.1
  obtain ⟨y2,r2,k2⟩:=h' H enc w fuel cs xs (by simp [Cod.pair] at hl;omega) (by simpa using hx) (fun i t' o' ht ho=>by simpa using hf (i+1) t' o' (by simpa using ht) (by simpa using ho)) hw.2
  refine ⟨(y1,y2),⟨_,_,?_,r1,r2⟩,k1,k2⟩
  rw [← List.drop_drop,List.take_append_drop]
theorem opens_struct {P:Program}{S T:Type}{e:Cod T}{ok:T→Prop}{ok':S→Prop}{t:TypeId}{fs:Array Field}(f:S→T)(g:T→S)(hfg:∀y,f (g y)=y)(ht:P.underlying t=some (.struct fs))(hc:P.cellsOf t=e.size)
  (h:OpensF P e ok 0 (fs.toList.map (·.type)) (fs.toList.map (·.offset))) (hok:∀y,ok y→ok' (g y)):Opens P (e.via f) ok' t:=by
 refine ⟨hc,fun H enc w fuel cs x hx hsz=>?_⟩
 obtain ⟨xs,n,rfl,rfl,hl,hlen,hf⟩:=DataW.trod_struct ht hx
 simp only [DataW.weights,ht] at hsz
 obtain ⟨y,hr,hy⟩:=h H enc w n cs xs (by omega) (by simpa using hlen) (fun i t o h1 h2=>by
  rw [List.getElem?_map,Option.map_eq_some_iff] at h1 h2
  obtain ⟨F,hF,rfl⟩:=h1
  obtain ⟨F',hF',rfl⟩:=h2
  rw [hF] at hF'
  cases hF'
  exact hf i F (by simpa using hF)) hsz
 refine ⟨g y,?_,hok y hy⟩
 show e.rel _ _ _ (f (g y))
 rw [hfg]
 simpa using hr
theorem opens_arg {P:Program}{T:Type}{e:Cod T}{ok:T→Prop}{t:TypeId}(h:Opens P e ok t){H:Type}{enc:TypeId×Value→H}{w:World}{v:Value}{d:DataW H}{p:List MemPlace}(h0:DataW.Trod enc P w 0 (fun _=>true) true t v d p)
  (hw:(d.weights P t).all (· ≤reachBytes)=true):∃y,e.rel (Low w.heap.size) w v.cells.toList y∧ok y:=by
 obtain ⟨fuel,hf⟩:=h0
 exact h.2 H enc w fuel _ _ hf hw
end Go.Proofs.Ytinlmkhlgclbfab
end
