/- RefCacheD -/
import Derived.Test.YtinlmkhlgclbfabWv08
namespace Go.Proofs.Ytinlmkhlgclbfab
open Go.RowKit
set_option maxRecDepth 100000
set_option maxHeartbeats 4000000
theorem keepOf_snoc (ws:List TWay)(line:Int)(x:TWay):keepOf (ws++[x]) line=if x.line=line then keepOf ws line else keepOf ws line++[x]:=by
 unfold keepOf
 rw [List.filter_append]
 by_cases h:x.line=line<;>simp [h]
theorem refFirst_snoc (ws:List TWay)(line:Int)(write:Bool)(x:TWay):refFirst (ws++[x]) line write=if x.line=line then ⟨line,write||x.dirty⟩ else refFirst ws line write:=by
 unfold refFirst
 rw [List.foldl_append]
 simp only [List.foldl_cons,List.foldl_nil]
theorem refFirst_line (ws:List TWay)(line:Int)(write:Bool):(refFirst ws line write).line=line:=by
 unfold refFirst
 have:∀(l:List TWay) (f:TWay),f.line=line→(l.foldl (fun f x=>if x.line=line then ⟨line,write||x.dirty⟩ else f) f).line=line:=by
  intro l
  induction l with
  |nil=>intro f h;exact h
  |cons x l ih=>intro f h;rw [List.foldl_cons];refine ih _ ?_;split;rfl;exact h
 exact this ws _ rfl
def refCostK (ws:List TWay) (line:Int) (k:Nat):Int:=if (keepOf (ws.take k) line).length=k then 10 else 1
theorem keepOf_le (ws:List TWay)(line:Int):(keepOf ws line).length≤ws.length:=List.length_filter_le _ _
theorem ref_steps {ws:List TWay}{line:Int}{write:Bool}{k:Nat}(h:k < ws.length):
  ((nth ws k).line=line→keepOf (ws.take (k+1)) line=keepOf (ws.take k) line∧refFirst (ws.take (k+1)) line write=⟨line,write||(nth ws k).dirty⟩∧refCostK ws line (k+1)=1)∧
  ((nth ws k).line≠line→keepOf (ws.take (k+1)) line=keepOf (ws.take k) line++[nth ws k]∧refFirst (ws.take (k+1)) line write=refFirst (ws.take k) line write∧refCostK ws line (k+1)=refCostK ws line k):=by
 have hl:=keepOf_le (ws.take k) line
 rw [len_take (by omega)] at hl
 refine ⟨fun e=>?_,fun e=>?_⟩
 ·have h1:keepOf (ws.take (k+1)) line=keepOf (ws.take k) line:=by rw [take_snoc h,keepOf_snoc,if_pos e]
  refine ⟨h1,by rw [take_snoc h,refFirst_snoc,if_pos e],?_⟩
  unfold refCostK;rw [h1,if_neg (by omega)]
 ·have h1:keepOf (ws.take (k+1)) line=keepOf (ws.take k) line++[nth ws k]:=by rw [take_snoc h,keepOf_snoc,if_neg e]
  refine ⟨h1,by rw [take_snoc h,refFirst_snoc,if_neg e],?_⟩
  unfold refCostK;rw [h1,List.length_append,List.length_singleton]
  by_cases h2:(keepOf (ws.take k) line).length=k
  ·rw [if_pos h2,if_pos (by omega)]
  ·rw [if_neg h2,if_neg (by omega)]
theorem access_len' (c:List (List TWay))(line:Int)(write:Bool):(accessOf c line write).length=c.length:=by simp [accessOf]
theorem refAccessOf (c:List (List TWay))(ok:CacheOk c)(line:Int)(write:Bool)(hl1:1≤line)(hl2:line≤1000)(A:Option Addr)(n B:Nat)(w:World)(hB:B≤w.heap.size)(hs:Sl cWay.slice (Low B) w A n c):
  Calls Try.prog 29 #[.agg #[.slice A c.length n],.int .i64 line,.bool write] w (RetCacheI (accessOf c line write) (accessCost c line) w):=by
 have hm:line % (c.length:Int)=(setOf c line:Int):=by
  unfold setOf
  have:=Int.emod_nonneg line (show (c.length:Int)≠0 by have:=ok.h1;omega)
  omega
 have hmlt:=setOf_lt ok.h1 line
 have hc4:=ok.h4
 have hc1:=ok.h1
 have h3:∀i,i < c.length→1≤(nth c i).length∧(nth c i).length≤3:=fun i hi=>by rw [ok.same i hi];exact ⟨ok.w1,ok.w3⟩
 have hso:=ok.set _ hmlt
 obtain ⟨t1,t2,t3⟩:=ref_touch write hso (h3 _ hmlt).1 hl1
 have hT:touchSet (nth c (setOf c line)) line write=refFirst (nth c (setOf c line)) line write::refRest (nth c (setOf c line)) line:=by unfold touchSet;rw [t1,t2]
 have hCo:accessCost c line=refCost (nth c (setOf c line)) line:=t3.symm
 have HRes:=zH (show ∀i,i < c.length→nth (accessOf c line write) i=if setOf c line=i then refFirst (nth c (setOf c line)) line write::refRest (nth c (setOf c line)) line else nth c i by
  intro i hi;unfold accessOf;rw [nth_set hi,hT])
 have HLen:=zH (access_len' c line write)
 have H3:=zH h3
 rw [hCo]
 clear t1 t2 t3 hT hCo hso h3 ok
 generalize accessOf c line write=res at*
 generalize hmd:setOf c line=m at*
 have HM:=zH hmd
 have HMH:=zH hm
 clear hmd hm
 have hm0:(0:Int)≤line:=by omega
 go_enter Try.func29,Try.ntmps29
 go_wp2_with fail
 go_loopw [10,11] (fun cv iv wr=>∃(i:Nat) (A1:Option Addr) (c1:Nat),i≤c.length∧iv= .int .i64 i∧cv= .int .i64 (if i≤m then 10 else refCost (nth c m) line)∧wr.heap[w.heap.size]?=some (.cells #[.slice A c.length n] 63)∧
  wr.heap[w.heap.size+1]?=some (.cells #[.slice none 0 0] 63)∧wr.heap[w.heap.size+2]?=some (.cells #[.slice A1 i c1] 63)∧OCache (Rng (w.heap.size+3) wr.heap.size) wr (.slice A1 i c1) (res.take i)∧Below w.heap.size w wr) (fun _ iv _=>c.length - (intOf iv).toNat)
 case atStart=>exact ⟨0,none,0,Nat.zero_le _,rfl,by simp,byH,byH,byH,OSl.nil _ _ _ _,byB⟩
 case round=>
  obtain ⟨i,A1,c1,hi,rfl,rfl,hp,hr,ho,hO,hbr⟩:=hrel
  obtain ⟨cp,fp,zp⟩:=blk hp
  obtain ⟨cr,fr,zr⟩:=blk hr
  obtain ⟨co,fo,zo⟩:=blk ho
  have so:=hbr.size
  by_cases hlt:i < c.length
  ·obtain ⟨b,o,A',c',rfl,hI,hcell,hin⟩:=(hs.next hB hbr).at_slice hlt
   have hl3:=H3.out i hlt
   have hi0:(0:Int)≤i:=by omega
   have hi1:(i:Int) < c.length:=by omega
   have hbl:b < w.heap.size:=Nat.lt_of_lt_of_le hI hB
   have hbw:b < wr.heap.size:=by omega
   have hres:=HRes.out i hlt
   have hil:i < res.length:=by rw [HLen.out];exact hlt
   have hilt:(res.take i).length=i:=len_take (by omega)
   obtain ⟨ess,G,e1,e2,e3,e4,e5,e6⟩:=hO
   rw [hilt] at e1 e2
   have e2:wr.ownsRow 0 124 1 (.slice A1 i c1) i ess.flatten:=e2
   have hlo:∀b,(Value.slice A1 i c1).ownBlock=some b→w.heap.size+3≤b:=fun b hb=>(e3 b hb).1
   by_cases him:i=m
   ·subst him
    have hbm:((i:Int) !=line % (c.length:Int))=false:=by rw [HMH.out];simp
    rw [if_pos rfl] at hres
    rw [if_pos (Nat.le_refl i)]
    have HR:=zH hres
    have HI:=zH hilt
    have HE1:=zH e1
    have HCV:=zH (show (if i+1≤i then (10:Int) else refCost (nth c i) line)=refCost (nth c i) line by rw [if_neg (by omega)])
    clear hres hilt e1
    generalize nth c i=ws at*
    have hw3:ws.length≤3:=hl3.2
    have hw1:1≤ws.length:=hl3.1
    obtain ⟨wo,rfl⟩:∃wo:World,wo=wr:=⟨_,rfl⟩
    have hBo:B≤wo.heap.size:=Nat.le_trans hB so
    have hws:ws.length≤9223372036854775807:=by omega
    go_wp2_with fail
    go_loopw [10,14,15] (fun cv rv kv wx=>∃(k:Nat) (AR:Option Addr) (cR:Nat),k≤ws.length∧kv= .int .i64 k∧cv= .int .i64 (refCostK ws line k)∧rv= .slice AR (keepOf (ws.take k) line).length cR∧
     wx.ownsRow (wo.heap.size+1) 126 2 (.slice AR (keepOf (ws.take k) line).length cR) (keepOf (ws.take k) line).length ((keepOf (ws.take k) line).flatMap TWay.cells)∧
     wx.heap[wo.heap.size]?=some (.cells #[.int .i64 line,.bool (refFirst (ws.take k) line write).dirty] 126)∧wo.heap.size < wx.heap.size∧Below wo.heap.size wo wx) (fun _ _ kv _=>ws.length - (intOf kv).toNat)
    case atStart=>exact ⟨0,none,0,Nat.zero_le _,rfl,rfl,rfl,World.ownsRow_nil _ _ _ _,(show _=some (Obj.cells #[.int .i64 line,.bool write] 126) from byH),by simp,byB⟩
    case round=>
     obtain ⟨k,AR,cR,hk,rfl,rfl,rfl,hrow,hf,hlt2,hbk⟩:=hrel
     obtain ⟨cf,ff,zf⟩:=blk hf
     by_cases hkt:k < ws.length
     ·obtain ⟨b',o',rfl,hI',hc0,hc1⟩:=(hin.next hBo hbk).at_way hkt
      have hk0:(0:Int)≤k:=by omega
      have hk1:(k:Int) < ws.length:=by omega
      have hle:=keepOf_le (ws.take k) line
      rw [len_take hk] at hle
      obtain ⟨t1,t2⟩:=ref_steps (line:=line) (write:=write) hkt
      by_cases hx:(nth ws k).line=line
      ·have t1:=zH (t1 hx)
       rw [hx] at hc0
       clear t2 hx
       cases write<;>cases hd:(nth ws k).dirty
       all_goals
        have HD:=zH hd
        rw [hd] at hc1
        clear hd
        go_wp2_with fail
        go_roundw
        case rel=>
         obtain ⟨u1,u2,u3⟩:=t1.out
         refine ⟨k+1,AR,cR,by omega,by go_num,by rw [u3],by rw [u1],by rw [u1];exact (own_mono (base:=wo.heap.size+1) (by repeat (first|with_reducible exact hrow|(with_reducible refine World.ownsRow.alloc ?_ _)|(with_reducible refine own_drew ?_)|(with_reducible refine own_drewN ?_ _)|(with_reducible refine ownsRow_setCell_below ?_ ?_ _;rotate_left;(first|omega|(simp<;>omega))))) (by first|omega|exact Below.size (by assumption)|(simp<;>omega))),?_,by simp;omega,byB⟩
         rw [u2,HD.out]
         exact (heap_set_same (i:=1) hf).trans (by simp)
        case measure=>simp [intOf];omega
      ·have t2:=zH (t2 hx)
       have hxb:((nth ws k).line==line)=false:=by simp [hx]
       clear t1 hx
       have hown:=hrow
       go_wp2_with ((at_builtin;refine wpList_app ?_ (.tmp 73) (.tmp 78) _ ?_ (wo.heap.size+1) tyWay (.slice AR (keepOf (ws.take k) line).length cR) (keepOf (ws.take k) line).length ((keepOf (ws.take k) line).flatMap TWay.cells) ?_ ?_ (some ⟨wr.heap.size,0,none⟩) 1 1 [.int .i64 (nth ws k).line,.bool (nth ws k).dirty] ?_ ?_ (one_way [nth ws k]) ?_ ?_ ?_ ?_;rfl;rfl;rfl;exact (hown.alloc _);rfl;exact (src_new (by simp) rfl);(first|(unfold maxLen;omega)|(simp only [maxLen];omega));(omega);(first|exact Nat.le_refl _|exact Below.size (by assumption)|omega|(simp<;>omega));intro A3 c3 w3 hown3 hg_w3 hat_w3;refine have_then (P:=w3.heap[wo.heap.size]?=some (.cells #[.int .i64 line,.bool (refFirst (ws.take k) line write).dirty] 126)) ?_ (fun f_w3=>?_);(focus (refine (hg_w3.block _ ?_ ?_).trans ?_;(first|omega|(simp<;>omega));(first|omega|exact Ne.symm (by assumption)|(intro e;have hlt:=(World.ownsRow.lt hown _ e.symm).1;omega)|(simp [Value.ownBlock]<;>omega));exact byH;done));obtain ⟨cf_w3,ff_w3,zf_w3⟩:=blk f_w3;refine have_then (P:=Below w.heap.size w w3) ?_ (fun h_w3=>?_);(focus (refine Below.grown ?_ hg_w3 ?_ ?_;(focus (exact byB;done));(first|exact Nat.le_refl _|exact Below.size (by assumption)|omega|(simp<;>omega));(intro kk hkk;first|(simp [Value.ownBlock] at hkk;omega)|(have hlt:=(World.ownsRow.lt hown kk hkk).1;omega));done));have s_w3:=Below.size h_w3))
       have hbo3:Below wo.heap.size wo w3:=by
        refine Below.grown ?_ hg_w3 ?_ ?_
        ·exact byB
        ·(first|exact Nat.le_refl _|exact Below.size (by assumption)|omega|(simp<;>omega))
        ·intro kk hkk;have hlt:=(World.ownsRow.lt hown kk hkk).1;omega
       go_roundw
       case rel=>
        obtain ⟨u1,u2,u3⟩:=t2.out
        refine ⟨k+1,A3,c3,by omega,by go_num,by rw [u3],by rw [u1];simp,?_,by rw [u2];exact f_w3,zf_w3,hbo3⟩
        rw [u1]
        simp only [List.length_append,List.length_singleton,List.flatMap_append,List.flatMap_cons,List.flatMap_nil,List.append_nil]
        exact hown3
       case measure=>simp [intOf];omega
     ·obtain rfl:k=ws.length:=by omega
      rw [List.take_length] at hrow hf⊢
      have hle:=keepOf_le ws line
      have hRS:Sl cWay (Rng (wo.heap.size+1) wr.heap.size) wr AR cR (keepOf ws line):=sl_of_own_rng (f:=TWay.cells) (hf:=fun _=>rfl) rfl hrow
      have hcapR:=hRS.cap
      go_upto_if 84 with (fail)
      go_cut [10,14] (fun cv rv wy=>cv= .int .i64 (refCost ws line)∧rv= .slice AR (refRest ws line).length cR∧wy=wr)
      case first=>
       by_cases hke:(keepOf ws line).length=ws.length
       ·obtain ⟨q,hq⟩:∃q,(keepOf ws line).length=q+1:=⟨(keepOf ws line).length - 1,by omega⟩
        obtain ⟨b',o',rfl,hI',hc0,hc1⟩:=hRS.at_way (show q < (keepOf ws line).length by omega)
        have E1:=zH (show refRest ws line=(keepOf ws line).take q by unfold refRest;rw [if_pos hke,List.dropLast_eq_take,hq];rfl)
        have E2:=zH (show refCost ws line=if (nth (keepOf ws line) q).dirty then 15 else 10 by unfold refCost;rw [if_pos hke,hq];rfl)
        have E3:refCostK ws line ws.length=10:=by unfold refCostK;rw [List.take_length,if_pos hke]
        have hbe:(((keepOf ws line).length:Int)==(ws.length:Int))=true:=by simp [hke]
        have hq1:((keepOf ws line).length:Int) - 1=q:=by omega
        have hq0:(0:Int)≤q:=by omega
        have hq2:(q:Int) < (keepOf ws line).length:=by omega
        have hq3:(q:Int)≤cR:=by omega
        have hql:((keepOf ws line).take q).length=q:=by rw [List.length_take];omega
        have HQL:=zH hql
        clear hql hke
        rw [E3]
        cases hd:(nth (keepOf ws line) q).dirty
        all_goals
         rw [hd] at hc1
         have HD:=zH hd
         clear hd
         go_wp2_with fail
         go_meet
         exact ⟨by rw [E2.out,HD.out];rfl,by rw [E1.out,HQL.out],rfl⟩
       ·have hbe:(((keepOf ws line).length:Int)==(ws.length:Int))=false:=by simp;omega
        have E1:=zH (show refRest ws line=keepOf ws line by unfold refRest;rw [if_neg hke])
        have E2:=zH (show refCost ws line=1 by unfold refCost;rw [if_neg hke])
        have E3:refCostK ws line ws.length=1:=by unfold refCostK;rw [List.take_length,if_neg hke]
        rw [E3]
        clear hke
        go_wp2_with fail
        go_meet
        exact ⟨by rw [E2.out],by rw [E1.out],rfl⟩
      case rest=>
       obtain ⟨rfl,rfl,rfl⟩:=hcut
       obtain ⟨wx,rfl⟩:∃wx:World,wx=wc:=⟨_,rfl⟩
       obtain ⟨nr,hnr⟩:∃n,refRest ws line=(keepOf ws line).take n:=by
        unfold refRest;split
        ·exact ⟨_,List.dropLast_eq_take⟩
        ·exact ⟨_,(List.take_length).symm⟩
       have hrr3:(refRest ws line).length≤3:=by rw [hnr,List.length_take];omega
       have hS2:Sl cWay (Rng (wo.heap.size+1) wx.heap.size) wx AR cR (refRest ws line):=by rw [hnr];exact hRS.take nr
       have hsrc:=zH (fun W (h:KeepI (Rng (wo.heap.size+1) wx.heap.size) wx W)=>(hS2.keepI h).src (f:=TWay.cells))
       have hl1:∀W:World,W.heap.size=wx.heap.size→(W.alloc (.cells #[.int .i64 line,.bool (refFirst ws line write).dirty] 126)).ownsRow 0 126 2 (.slice (some ⟨wx.heap.size,0,none⟩) 1 1) 1 [.int .i64 line,.bool (refFirst ws line write).dirty]:=fun W hW=>by
        have:=World.ownsRow_lit W (base:=0) (e:=126) (size:=2) #[.int .i64 line,.bool (refFirst ws line write).dirty] 1 (Nat.zero_le _) (by unfold maxLen;omega) rfl
        rw [hW] at this;exact this
       have hl1:=zH hl1
       have hlo1:∀b,(Value.slice (some ⟨wx.heap.size,0,none⟩) 1 1).ownBlock=some b→wo.heap.size+1≤b:=fun b hb=>by simp [Value.ownBlock] at hb;omega
       have hcr:[.int .i64 line,.bool (refFirst ws line write).dirty]++(refRest ws line).flatMap TWay.cells=(refFirst ws line write::refRest ws line).flatMap TWay.cells:=by
        rw [List.flatMap_cons];unfold TWay.cells;rw [refFirst_line]
       have HCR:=zH hcr
       have HLC:=zH (show (refFirst ws line write::refRest ws line).length=1+(refRest ws line).length by simp;omega)
       have sx:=hbk.size
       have hpx:=(hbk.block _ zp).trans hp
       have hrx:=(hbk.block _ zr).trans hr
       have hox:=(hbk.block _ zo).trans ho
       obtain ⟨cpx,fpx,zpx⟩:=blk hpx
       obtain ⟨crx,frx,zrx⟩:=blk hrx
       obtain ⟨cox,fox,zox⟩:=blk hox
       obtain ⟨cf,ff,zf⟩:=blk hf
       clear hcr hrow hS2 hRS hnr
       go_wp2_with fail
       go_region_law
        (first|((refine step_app ?_ (.tmp 100) (.tmp 101) _ ?_ 0 tyWay (.slice (some ⟨wx.heap.size,0,none⟩) 1 1) 1 [.int .i64 line,.bool (refFirst ws line write).dirty] ?_ ?_ AR (refRest ws line).length cR ((refRest ws line).flatMap TWay.cells) ?_ ?_ (one_way _) ?_ ?_ ?_ ?_;rfl;rfl;rfl;exact (by repeat (first|exact hl1.out _ rfl|(with_reducible refine World.ownsRow.alloc ?_ _)|(with_reducible refine own_drew ?_)|(with_reducible refine own_drewN ?_ _)));rfl;exact (hsrc.out _ byI);(first|(unfold maxLen;omega)|(simp only [maxLen];omega));(omega);(exact Nat.zero_le _);intro A2 c2 w2 hown2 hg_w2 hat_w2;refine have_then (P:=w2.heap[w.heap.size]?=some (.cells #[.slice (some ⟨b,o,none⟩) c.length n] 63)) ?_ (fun a_w2=>?_);(focus (refine (hg_w2.block _ ?_ ?_).trans ?_;(first|omega|(simp<;>omega));(intro e;have hlt:=hlo1 _ e.symm;omega);exact byH;done));obtain ⟨ca_w2,fa_w2,za_w2⟩:=blk a_w2;refine have_then (P:=w2.heap[w.heap.size+1]?=some (.cells #[.slice none 0 0] 63)) ?_ (fun r_w2=>?_);(focus (refine (hg_w2.block _ ?_ ?_).trans ?_;(first|omega|(simp<;>omega));(intro e;have hlt:=hlo1 _ e.symm;omega);exact byH;done));obtain ⟨cr_w2,fr_w2,zr_w2⟩:=blk r_w2;refine have_then (P:=w2.heap[w.heap.size+2]?=some (.cells #[.slice A1 i c1] 63)) ?_ (fun o_w2=>?_);(focus (refine (hg_w2.block _ ?_ ?_).trans ?_;(first|omega|(simp<;>omega));(intro e;have hlt:=hlo1 _ e.symm;omega);exact byH;done));obtain ⟨co_w2,fo_w2,zo_w2⟩:=blk o_w2;refine have_then (P:=Below w.heap.size w w2) ?_ (fun h_w2=>?_);(focus (refine Below.grown ?_ hg_w2 ?_ ?_;(focus (exact byB;done));(first|exact Nat.le_refl _|exact Below.size (by assumption)|omega|(simp<;>omega));(intro kk hkk;have hlt:=hlo1 _ hkk;omega);done));have s_w2:=Below.size h_w2;have t_w2:=hg_w2.size;(try simp at t_w2));have e2w:w2.ownsRow 0 124 1 (.slice A1 i c1) i ess.flatten:=own_keep e2 fun bb hb=>(hg_w2.block bb (by have:=(e3 bb hb).2;simp;omega) (by have:=(e3 bb hb).2;simp [Value.ownBlock];omega)).trans ((show KeepI (Rng (w.heap.size+3) wo.heap.size) wo _ from byI) bb (e3 bb hb)))|(refine step_app ?_ (.tmp 98) (.tmp 103) _ ?_ 0 tyWays (.slice A1 i c1) i ess.flatten ?_ ?_ (some ⟨w2.heap.size,0,none⟩) 1 1 [.slice A2 (1+(refRest ws line).length) c2] ?_ ?_ (one_one rfl) ?_ ?_ ?_ ?_;rfl;rfl;rfl;exact (by repeat (first|with_reducible exact e2w|(with_reducible refine World.ownsRow.alloc ?_ _)|(with_reducible refine own_drew ?_)|(with_reducible refine own_drewN ?_ _)));rfl;exact (src_new (by simp) rfl);(first|(unfold maxLen;omega)|(simp only [maxLen];omega));(omega);(exact Nat.zero_le _);intro A3 c3 w3 hown3 hg_w3 hat_w3;refine have_then (P:=w3.heap[w.heap.size]?=some (.cells #[.slice (some ⟨b,o,none⟩) c.length n] 63)) ?_ (fun a_w3=>?_);(focus (refine (hg_w3.block _ ?_ ?_).trans ?_;(first|omega|(simp<;>omega));(intro e;have hlt:=hlo _ e.symm;omega);exact byH;done));obtain ⟨ca_w3,fa_w3,za_w3⟩:=blk a_w3;refine have_then (P:=w3.heap[w.heap.size+1]?=some (.cells #[.slice none 0 0] 63)) ?_ (fun r_w3=>?_);(focus (refine (hg_w3.block _ ?_ ?_).trans ?_;(first|omega|(simp<;>omega));(intro e;have hlt:=hlo _ e.symm;omega);exact byH;done));obtain ⟨cr_w3,fr_w3,zr_w3⟩:=blk r_w3;refine have_then (P:=w3.heap[w.heap.size+2]?=some (.cells #[.slice A1 i c1] 63)) ?_ (fun o_w3=>?_);(focus (refine (hg_w3.block _ ?_ ?_).trans ?_;(first|omega|(simp<;>omega));(intro e;have hlt:=hlo _ e.symm;omega);exact byH;done));obtain ⟨co_w3,fo_w3,zo_w3⟩:=blk o_w3;refine have_then (P:=Below w.heap.size w w3) ?_ (fun h_w3=>?_);(focus (refine Below.grown ?_ hg_w3 ?_ ?_;(focus (exact byB;done));(first|exact Nat.le_refl _|exact Below.size (by assumption)|omega|(simp<;>omega));(intro kk hkk;have hlt:=hlo _ hkk;omega);done));have s_w3:=Below.size h_w3;have t_w3:=hg_w3.size;(try simp at t_w3)))
       all_goals
        go_wp2_with fail
        go_roundw
        case rel=>
         rw [HCR.out] at hown2
         have hfr2:∀bb,(Value.slice A2 (1+(refRest ws line).length) c2).ownBlock=some bb→wo.heap.size+1≤bb∧bb < w2.heap.size:=fun bb hb=>⟨by
          rcases hat_w2 with e|e
          ·rw [e] at hb;simp [Value.ownBlock] at hb;omega
          ·rw [hb] at e;injection e with e;simp at e;omega,(own_lt hown2 bb hb).2⟩
         have z2:=hg_w2.size
         have z3:=hg_w3.size
         simp at z2 z3
         refine ⟨i+1,A3,c3,by omega,by go_num,by rw [HCV.out],byH,byH,?_,?_,byB⟩
         ·have:=heap_set_same (i:=0) (u:= .slice A3 (i+1) c3) o_w3
          simpa using this
         ·unfold OCache
          rw [take_snoc hil,HR.out]
          have hK2:KeepI (Rng (w.heap.size+3) wo.heap.size) wo w2:=fun bb hbb=>(hg_w2.block bb (by simp only [Rng] at hbb;simp;omega) (by simp only [Rng] at hbb;simp [Value.ownBlock];omega)).trans ((show KeepI (Rng (w.heap.size+3) wo.heap.size) wo _ from byI) bb hbb)
          refine osl_step (F:=Rng (w.heap.size+3) wo.heap.size) (Fx:=Rng (wo.heap.size+1) w2.heap.size) (w0:=wo) (es:=[.slice A2 (1+(refRest ws line).length) c2]) (by rw [HI.out];exact HE1.out) e4 e5 e6 e3 hg_w3 hat_w3 (by rw [HI.out];exact hown3) ⟨_,rfl,osl_flat.2 ⟨by rw [HLC.out];exact (by repeat (first|with_reducible exact hown2|(with_reducible refine World.ownsRow.alloc ?_ _)|(with_reducible refine own_drew ?_)|(with_reducible refine own_drewN ?_ _))),?_⟩⟩ ?_ ?_ ?_ ?_ ?_ ?_
          ·intro bb hb;exact hfr2 bb hb
          ·exact fun bb hbb=>(show KeepI (Rng (w.heap.size+3) wo.heap.size) w2 _ from byI) bb hbb|>.trans (hK2 bb hbb)
          ·intro bb hb hb';simp only [Rng] at hb hb';omega
          ·intro bb hb;simp only [Rng] at hb;simp;omega
          ·intro bb hb;simp only [Rng] at hb⊢;simp;omega
          ·intro bb hb hb';simp only [Rng];simp at hb⊢;omega
          ·exact byI
        case measure=>simp [intOf];omega
   ·have hbm:((i:Int) !=line % (c.length:Int))=true:=by rw [HMH.out,bne_iff_ne];omega
    rw [if_neg (Ne.symm him)] at hres
    have HR:=zH hres
    clear hres
    have hsrc:=zH (fun W (h:Below wr.heap.size wr W)=>(hin.next (Nat.le_trans hB so) h).src (f:=TWay.cells))
    have he:=own_mono (base':=0) (own_empty (w:=wr) (e:=126) (size:=2) (g:=wr.heap.size) rfl) (Nat.zero_le _)
    have hlo1:∀b,(Value.slice (some ⟨wr.heap.size,0,none⟩) 0 0).ownBlock=some b→wr.heap.size≤b:=fun b hb=>by simp [Value.ownBlock] at hb;omega
    have HI:=zH hilt
    have HE1:=zH e1
    have HCV:=zH (show (if i+1≤m then (10:Int) else refCost (nth c m) line)=if i≤m then 10 else refCost (nth c m) line by
     by_cases h:i+1≤m
     ·rw [if_pos h,if_pos (by omega)]
     ·rw [if_neg h,if_neg (by omega)])
    generalize (if i≤m then (10:Int) else refCost (nth c m) line)=cv at*
    clear hilt e1
    go_wp2_with fail
    go_region_law
     (first|((refine step_app ?_ (.tmp 33) (.tmp 38) _ ?_ 0 tyWay (.slice (some ⟨wr.heap.size,0,none⟩) 0 0) 0 [] ?_ ?_ A' (nth c i).length c' ((nth c i).flatMap TWay.cells) ?_ ?_ (one_way _) ?_ ?_ ?_ ?_;rfl;rfl;rfl;exact (by repeat (first|with_reducible exact he|(with_reducible refine World.ownsRow.alloc ?_ _)|(with_reducible refine own_drew ?_)|(with_reducible refine own_drewN ?_ _)));rfl;exact (hsrc.out _ byB);(first|(unfold maxLen;omega)|(simp only [maxLen];omega));(omega);(exact Nat.zero_le _);intro A2 c2 w2 hown2 hg_w2 hat_w2;refine have_then (P:=w2.heap[w.heap.size]?=some (.cells #[.slice (some ⟨b,o,none⟩) c.length n] 63)) ?_ (fun a_w2=>?_);(focus (refine (hg_w2.block _ ?_ ?_).trans ?_;(first|omega|(simp<;>omega));(intro e;have hlt:=hlo1 _ e.symm;omega);exact byH;done));obtain ⟨ca_w2,fa_w2,za_w2⟩:=blk a_w2;refine have_then (P:=w2.heap[w.heap.size+1]?=some (.cells #[.slice none 0 0] 63)) ?_ (fun r_w2=>?_);(focus (refine (hg_w2.block _ ?_ ?_).trans ?_;(first|omega|(simp<;>omega));(intro e;have hlt:=hlo1 _ e.symm;omega);exact byH;done));obtain ⟨cr_w2,fr_w2,zr_w2⟩:=blk r_w2;refine have_then (P:=w2.heap[w.heap.size+2]?=some (.cells #[.slice A1 i c1] 63)) ?_ (fun o_w2=>?_);(focus (refine (hg_w2.block _ ?_ ?_).trans ?_;(first|omega|(simp<;>omega));(intro e;have hlt:=hlo1 _ e.symm;omega);exact byH;done));obtain ⟨co_w2,fo_w2,zo_w2⟩:=blk o_w2;refine have_then (P:=Below w.heap.size w w2) ?_ (fun h_w2=>?_);(focus (refine Below.grown ?_ hg_w2 ?_ ?_;(focus (exact byB;done));(first|exact Nat.le_refl _|exact Below.size (by assumption)|omega|(simp<;>omega));(intro kk hkk;have hlt:=hlo1 _ hkk;omega);done));have s_w2:=Below.size h_w2;have t_w2:=hg_w2.size;(try simp at t_w2));have e2w:w2.ownsRow 0 124 1 (.slice A1 i c1) i ess.flatten:=own_keep e2 fun bb hb=>(hg_w2.block bb (by have:=(e3 bb hb).2;simp;omega) (by have:=(e3 bb hb).2;simp [Value.ownBlock];omega)).trans ((show KeepI (Rng (w.heap.size+3) wr.heap.size) wr _ from byI) bb (e3 bb hb)))|(refine step_app ?_ (.tmp 32) (.tmp 40) _ ?_ 0 tyWays (.slice A1 i c1) i ess.flatten ?_ ?_ (some ⟨w2.heap.size,0,none⟩) 1 1 [.slice A2 (nth c i).length c2] ?_ ?_ (one_one rfl) ?_ ?_ ?_ ?_;rfl;rfl;rfl;exact (by repeat (first|with_reducible exact e2w|(with_reducible refine World.ownsRow.alloc ?_ _)|(with_reducible refine own_drew ?_)|(with_reducible refine own_drewN ?_ _)));rfl;exact (src_new (by simp) rfl);(first|(unfold maxLen;omega)|(simp only [maxLen];omega));(omega);(exact Nat.zero_le _);intro A3 c3 w3 hown3 hg_w3 hat_w3;refine have_then (P:=w3.heap[w.heap.size]?=some (.cells #[.slice (some ⟨b,o,none⟩) c.length n] 63)) ?_ (fun a_w3=>?_);(focus (refine (hg_w3.block _ ?_ ?_).trans ?_;(first|omega|(simp<;>omega));(intro e;have hlt:=hlo _ e.symm;omega);exact byH;done));obtain ⟨ca_w3,fa_w3,za_w3⟩:=blk a_w3;refine have_then (P:=w3.heap[w.heap.size+1]?=some (.cells #[.slice none 0 0] 63)) ?_ (fun r_w3=>?_);(focus (refine (hg_w3.block _ ?_ ?_).trans ?_;(first|omega|(simp<;>omega));(intro e;have hlt:=hlo _ e.symm;omega);exact byH;done));obtain ⟨cr_w3,fr_w3,zr_w3⟩:=blk r_w3;refine have_then (P:=w3.heap[w.heap.size+2]?=some (.cells #[.slice A1 i c1] 63)) ?_ (fun o_w3=>?_);(focus (refine (hg_w3.block _ ?_ ?_).trans ?_;(first|omega|(simp<;>omega));(intro e;have hlt:=hlo _ e.symm;omega);exact byH;done));obtain ⟨co_w3,fo_w3,zo_w3⟩:=blk o_w3;refine have_then (P:=Below w.heap.size w w3) ?_ (fun h_w3=>?_);(focus (refine Below.grown ?_ hg_w3 ?_ ?_;(focus (exact byB;done));(first|exact Nat.le_refl _|exact Below.size (by assumption)|omega|(simp<;>omega));(intro kk hkk;have hlt:=hlo _ hkk;omega);done));have s_w3:=Below.size h_w3;have t_w3:=hg_w3.size;(try simp at t_w3)))
    all_goals
     go_wp2_with fail
     go_roundw
     case rel=>
      simp only [Nat.zero_add,List.nil_append] at hown2 hat_w2
      have hn2:=own_mono (base':=0) hown2 (Nat.zero_le _)
      have hfr2:∀bb,(Value.slice A2 (nth c i).length c2).ownBlock=some bb→wr.heap.size≤bb∧bb < w2.heap.size:=fun bb hb=>⟨by
       rcases hat_w2 with e|e
       ·rw [e] at hb;simp [Value.ownBlock] at hb;omega
       ·rw [hb] at e;injection e with e;simp at e;omega,(own_lt hown2 bb hb).2⟩
      have z2:=hg_w2.size
      have z3:=hg_w3.size
      simp at z2 z3
      refine ⟨i+1,A3,c3,by omega,by go_num,by rw [HCV.out],byH,byH,?_,?_,byB⟩
      ·have:=heap_set_same (i:=0) (u:= .slice A3 (i+1) c3) o_w3
       simpa using this
      ·unfold OCache
       rw [take_snoc hil,HR.out]
       have hK2:KeepI (Rng (w.heap.size+3) wr.heap.size) wr w2:=fun bb hbb=>(hg_w2.block bb (by simp only [Rng] at hbb;simp;omega) (by simp only [Rng] at hbb;simp [Value.ownBlock];omega)).trans ((show KeepI (Rng (w.heap.size+3) wr.heap.size) wr _ from byI) bb hbb)
       refine osl_step (F:=Rng (w.heap.size+3) wr.heap.size) (Fx:=Rng wr.heap.size w2.heap.size) (w0:=wr) (es:=[.slice A2 (nth c i).length c2]) (by rw [HI.out];exact HE1.out) e4 e5 e6 e3 hg_w3 hat_w3 (by rw [HI.out];exact hown3) ⟨_,rfl,osl_flat.2 ⟨(by repeat (first|with_reducible exact hn2|(with_reducible refine World.ownsRow.alloc ?_ _)|(with_reducible refine own_drew ?_)|(with_reducible refine own_drewN ?_ _))),?_⟩⟩ ?_ ?_ ?_ ?_ ?_ ?_
       ·intro bb hb;exact hfr2 bb hb
       ·exact fun bb hbb=>(show KeepI (Rng (w.heap.size+3) wr.heap.size) w2 _ from byI) bb hbb|>.trans (hK2 bb hbb)
       ·intro bb hb hb';simp only [Rng] at hb hb';omega
       ·intro bb hb;simp only [Rng] at hb;simp;omega
       ·intro bb hb;simp only [Rng] at hb⊢;simp;omega
       ·intro bb hb hb';simp only [Rng];simp at hb⊢;omega
       ·exact byI
     case measure=>simp [intOf];omega
  ·obtain rfl:i=c.length:=by omega
   have hres:res.take c.length=res:=by rw [← HLen.out,List.take_length]
   rw [hres] at hO
   rw [if_neg (by omega)]
   generalize refCost (nth c m) line=rc at*
   go_wp2_with fail
   refine bodyPost_ret (v:= .tuple #[.agg #[.slice A1 c.length c1],.int .i64 rc]) (by simp [results,Try.results29,go_sem, *]) rfl ?_
   refine ⟨A1,c1,by rw [HLen.out],?_,byB⟩
   rw [HLen.out]
   refine OSl.mono (OSl.keepI hO byI) ?_
   intro b hb;simp only [Rng] at hb⊢;simp;omega
end Go.Proofs.Ytinlmkhlgclbfab
