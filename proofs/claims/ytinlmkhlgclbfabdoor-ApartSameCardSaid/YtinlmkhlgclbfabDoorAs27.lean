/- WinM WinN -/
import Derived.Test.YtinlmkhlgclbfabDoorAs25
import Derived.Test.YtinlmkhlgclbfabDoorAs26
namespace Go.Proofs.YtinlmkhlgclbfabDoor
open Go.RowKit
section
set_option maxRecDepth 100000
set_option maxHeartbeats 8000000
section
variable {gr gk : Nat} {F : Nat → Prop} {B : Nat} {c : TCfg} {S : TCfgS} {m : Int} {Ak : Option Addr} {nk : Nat} {ac : List TAct} {Al : Option Addr} {nl : Nat} {to_ : Int}
def RnS (gr gk:Nat) (G:Nat→Nat→Prop) (F:Nat→Prop) (B:Nat) (w:World) (c:TCfg) (S:TCfgS) (m:Int) (Ak:Option Addr) (nk:Nat) (ac:List TAct) (Al:Option Addr) (nl:Nat) (to_:Int) (s:Win) (W:World):Prop:=
 ∃G' T',Rn gr gk G' F B W c S m s.d T' s.k Ak nk ac Al nl s.now to_∧REff gr gk B F G G' w W
structure RunOk (c:TCfg) (m to_:Int) (s0 s:Win):Prop where
 inn:WinIn c m to_ s
 ev:(s.d.events.length:Int)≤s0.d.events.length+44*(s.now - s0.now)
 outs:∀j,((nth s.d.outs j).length:Int)≤(nth s0.d.outs j).length+(s.now - s0.now)
theorem RunOk.step {l:List TAct}{s0 s:Win}(hc:CfgOk c)(hl:l.length≤60)(ha:∀i,i < l.length→ActOk (nth l i))(ht:to_≤100000)(h:RunOk c m to_ s0 s)(hlt:s.now < to_):RunOk c m to_ s0 (winStep c m l to_ s):=by
 have h1:=winStep_ok hc hl ha ht h.inn hlt
 have h2:=winStep_grow (c:=c) (dom:=m) (to_:=to_) (l:=l) h.inn.ok.njobs
 refine ⟨h1.1,?_,fun j=>?_⟩
 ·have:=h.ev;have:=h2.1;omega
 ·have:=h.outs j;have:=h2.2.2 j;omega
theorem runnerRun {gq:Nat}{G:Nat→Nat→Prop}{w:World}{d:TDom}{T:TDomS}{k:List (List TWay)}{now:Int}(h:Rn gr gq G F B w c S m d T k Ak nk ac Al nl now to_)(hc:CfgOk c)(hl:ac.length≤60)(ha:∀i,i < ac.length→ActOk (nth ac i))(ht:to_≤100000)(h0:WinIn c m to_ ⟨now,d,k⟩)(hev:d.events.length≤4194304)(ho:∀j,(nth d.outs j).length≤4194304):
  Calls Tryd.prog 61 #[.pointer (some ⟨gr,0,none⟩)] w fun e w'=>e= .returned (.tuple #[])∧RnS gr gq G F B w c S m Ak nk ac Al nl to_ ⟨to_,windowD c m d k ac now to_,windowK c m d k ac now to_⟩ w':=by
 have hS:=zH (⟨G,T,h,REff.refl _ _ _ _ _ _⟩:RnS gr gq G F B w c S m Ak nk ac Al nl to_ ⟨now,d,k⟩ w)
 have hR:=zH (⟨h0,by dsimp only;omega,fun j=>by dsimp only;omega⟩:RunOk c m to_ ⟨now,d,k⟩ ⟨now,d,k⟩)
 obtain ⟨N,hN⟩:∃N,N=(to_ - now).toNat:=⟨_,rfl⟩
 have hN2:to_ - now≤N:=by omega
 replace hN:=zH hN
 clear h
 go_enter Tryd.func61,Tryd.ntmps61
 go_wp2_with fail
 go_loopg [] N (fun n wr=>∃s,RunOk c m to_ ⟨now,d,k⟩ s∧RnS gr gq G F B w c S m Ak nk ac Al nl to_ s wr∧Hid (winLoop c m ac to_ N ⟨now,d,k⟩=winLoop c m ac to_ n s)∧to_ - s.now≤n)
 case atStart=>exact ⟨_,hR.out,hS.out,zH rfl,hN2⟩
 case round=>
  obtain ⟨s,hRO,⟨G1,T1,hR1,hE1⟩,hw,hle⟩:=hrel
  have br:=hR1.blk
  obtain ⟨cr,fr,zr⟩:=blk br
  have hin:=hRO.inn.now
  by_cases hlt:s.now < to_
  ·have bl:decide (s.now < to_)=true:=by simpa using hlt
   have hev1:s.d.events.length+44≤4398046511104:=by have:=hRO.ev;dsimp only at this;have:=h0.now;dsimp only at this;omega
   have HC:=zH (fun W (hb:Below wr.heap.size wr W)=>(keeperCome gq G1 B W c S m s.now s.d T1 (hR1.ext hb).kp hc hRO.inn.ok (by omega) (by omega)).mono fun e w' ⟨G',T',he,hK,hE⟩=>(⟨he,G',T',(hR1.ext hb).keeper hK hE,((REff.ext hR1.hB hb).trans hE.run)⟩:e=Ending.returned (.tuple #[])∧∃G' T',Rn gr gq G' F B w' c S m (releaseOf c m s.now s.d) T' s.k Ak nk ac Al nl s.now to_∧REff gr gq B F G1 G' wr w'))
   replace hR1:=zH hR1
   go_wp2_with fail
   go_quiet (fail)
   go_upto_region 1 with (fail)
   have hba:Below wr.heap.size wr (wr.drewN nq):=byB
   generalize wr.drewN nq=Wa at*
   obtain ⟨cra,fra,zra⟩:=blk ((hba.block _ zr).trans br)
   clear cr fr
   (refine wp_region_still_tail 8 (by kernel_rfl) (by kernel_rfl) ?_;simp only [List.take_succ_cons,List.take_zero,List.drop_succ_cons,List.drop_zero];(iterate 8 (with_reducible refine wpStill_step (fun K hK=>?_);replace hK:=zH hK;go_simp;with_reducible refine hK.out _ ?_;clear hK K));refine wpStill_nil ?_)
   go_wp2_with fail
   go_at_call 69
   refine (HC.out _ byB).mono ?_
   rintro e w1 ⟨rfl,G2,T2,hR2,hE2⟩
   have hdR:=release_okW (dom:=m) hc (show s.now≤100000 by omega) hRO.inn.ok
   have hst:=hRO.step hc hl ha ht hlt
   have hws:∀x,x=winStep c m ac to_ s→∃n',n' < gk∧Hid (winLoop c m ac to_ N ⟨now,d,k⟩=winLoop c m ac to_ n' x)∧to_ - x.now≤n':=by
    rintro x rfl
    have h2:=(winStep_ok hc hl ha ht hRO.inn hlt).2
    cases gk with
    |zero=>omega
    |succ n=>exact ⟨n,by omega,zH (by rw [hw.out];show (if s.now < to_ then _ else _)=_;rw [if_pos hlt]),by omega⟩
   have hgr:=release_grow c m s.now s.d hRO.inn.ok.njobs
   have HB:=zH (fun W (hb:Below w1.heap.size w1 W)=>keeperBest gq G2 B W c S m (releaseOf c m s.now s.d) T2 (hR2.ext hb).kp hc hdR)
   have br2:=hR2.blk
   obtain ⟨cr2,fr2,zr2⟩:=blk br2
   replace hR2:=zH hR2
   replace hst:=zH hst
   replace hws:=zH hws
   go_wp2_with fail
   go_at_call 70
   refine (HB.out _ byB).mono ?_
   rintro e w2 ⟨rfl,hb2⟩
   have hEr:=zH (hE1.trans hE2)
   obtain ⟨dR,hdr⟩:∃x,x=releaseOf c m s.now s.d:=⟨_,rfl⟩
   rw [← hdr] at hR2 hdR hgr⊢
   replace hdr:=zH hdr
   clear cra fra HC HB br
   have hb12:Below w1.heap.size w1 w2:=byB
   obtain ⟨cr3,fr3,zr3⟩:=blk ((hb12.block _ zr2).trans br2)
   clear cr2 fr2
   by_cases hbest:bestOf c dR.jobs < 0
   ·have b1:decide (bestOf c dR.jobs < 0)=true:=by simpa using hbest
    have hx:=zH (show (⟨idleTo to_ (dueOf c m dR),dR,s.k⟩:Win)=winStep c m ac to_ s by unfold winStep;dsimp only;rw [← hdr.out,if_pos hbest])
    have HI:=zH (fun W (hb:Below w2.heap.size w2 W)=>runnerIdle (hR2.out.ext (hb12.trans (hb.mono hb12.size))) hc hdR)
    clear hbest
    generalize bestOf c dR.jobs=bi at*
    go_wp2_with fail
    go_at_call 71
    refine (HI.out _ byB).mono ?_
    rintro e w3 ⟨rfl,hR3,hE3⟩
    replace hR3:=zH hR3
    replace hE3:=zH hE3
    obtain ⟨n',hn',hw',hl'⟩:=hws.out _ hx.out
    go_wp2_with fail
    go_roundg n'
    case measure=>exact hn'
    case rel=>exact ⟨⟨idleTo to_ (dueOf c m dR),dR,s.k⟩,by rw [hx.out];exact hst.out,⟨_,_,hR3.out,(hEr.out.trans (REff.ext hR2.out.hB hb12)).trans hE3.out⟩,hw',hl'⟩
   ·have b1:decide (bestOf c dR.jobs < 0)=false:=by simpa using hbest
    have hbl:=best_lt hbest
    obtain ⟨bi,hbi⟩:∃bi:Nat,bestOf c dR.jobs=(bi:Int):=⟨(bestOf c dR.jobs).toNat,by omega⟩
    have hbn:(bestOf c dR.jobs).toNat=bi:=by omega
    rw [hbn] at hbl
    have hnn:=hdR.next
    obtain ⟨ck3,fk3,zk3⟩:=blk (hR2.out.ext hb12).kp.blk
    by_cases hnx:(ac.length:Int)≤dR.next
    ·have hx:=zH (show (⟨to_,dR,s.k⟩:Win)=winStep c m ac to_ s by unfold winStep;dsimp only;rw [← hdr.out,if_neg hbest,if_pos (.inl hnx)])
     have HT:=zH (fun W (hb:Below w2.heap.size w2 W)=>(hR2.out.ext (hb12.trans (hb.mono hb12.size))).time to_)
     have b2:decide (dR.next≥(ac.length:Int))=true:=by simpa using hnx
     obtain ⟨n',hn',hw',hl'⟩:=hws.out _ hx.out
     rw [hbi] at b1⊢
     clear hbest hnx hbi hbn
     go_wp2_with fail
     go_quiet (fail)
     go_wp2_with fail
     have hb9:=zH (HT.out (w2.drewN nq) byB)
     go_roundg n'
     case measure=>exact hn'
     case rel=>exact ⟨⟨to_,dR,s.k⟩,by rw [hx.out];exact hst.out,⟨_,_,hb9.out.1,(hEr.out.trans (REff.ext hR2.out.hB (hb12.trans (Below.mono byB hb12.size)))).trans hb9.out.2⟩,hw',hl'⟩
    ·obtain ⟨ni,hni⟩:∃ni:Nat,dR.next=(ni:Int):=⟨dR.next.toNat,by omega⟩
     have hnl:ni < ac.length:=by omega
     have hnt:dR.next.toNat=ni:=by omega
     obtain ⟨bA,oA,eA,hIA,x0,x1,x2⟩:=hR2.out.acts.at_act hnl
     have hB2:=hR2.out.hB
     have hlA:bA < w1.heap.size:=Nat.lt_of_lt_of_le hIA hB2
     have y0:=(hb12.cell (p:=⟨bA,oA+ni*3,none⟩) hlA).trans x0
     have y1:=(hb12.cell (p:=⟨bA,oA+ni*3+1,none⟩) hlA).trans x1
     have y2:=(hb12.cell (p:=⟨bA,oA+ni*3+2,none⟩) hlA).trans x2
     have hlA2:bA < w2.heap.size:=Nat.lt_of_lt_of_le hlA hb12.size
     clear x0 x1 x2
     rw [eA] at cr3
     have hAo:=ha ni hnl
     have HW:=zH (fun W=>windowWorst (nth ac ni) W)
     have b2:decide ((ni:Int)≥(ac.length:Int))=false:=by simp;omega
     have b2n:decide (ac.length≤ni)=false:=by simp;omega
     have b2m:decide (ni≥ac.length)=false:=by simp;omega
     have n0:(0:Int)≤(ni:Int):=by omega
     have n1:(ni:Int) < ac.length:=by omega
     rw [hbi] at b1⊢
     rw [hni] at ck3
     have hsp:=spend_bd (k:=s.k) hAo
     have hrn:=hRO.inn.now
     have hwb:=worstA_bd hAo
     have hx1:=zH (show to_ - s.now < worstA (nth ac ni)→(⟨to_,dR,s.k⟩:Win)=winStep c m ac to_ s from fun hwo=>by unfold winStep;dsimp only;rw [← hdr.out,if_neg hbest,if_pos (.inr (by rw [hnt];exact hwo))])
     have hx2:=zH (show ¬ to_ - s.now < worstA (nth ac ni)→(⟨s.now+spendN s.k (nth ac ni),doA c m s.now bi (nth ac ni) (spendN s.k (nth ac ni)) dR,spendK s.k (nth ac ni)⟩:Win)=winStep c m ac to_ s from fun hwo=>by unfold winStep;dsimp only;rw [← hdr.out,if_neg hbest,if_neg (by rw [hnt];omega),hbn,hnt])
     have hevR:dR.events.length+4≤4398046511104:=by omega
     have hoR:∀j,j < dR.outs.length→(nth dR.outs j).length+1≤4398046511104:=fun j _=>by
      have e1:dR.outs=s.d.outs:=by rw [hdr.out];exact release_outs c m s.now s.d
      rw [e1]
      have e2:=hRO.outs j;have e3:=h0.now;have e4:=ho j
      dsimp only at e2 e3;omega
     have HD:=zH (fun W (hb:Below w2.heap.size w2 W)=>runnerDo (hR2.out.ext (hb12.trans (hb.mono hb12.size))) hc hdR hRO.inn.cache hbl (nth ac ni) hAo (by omega) (by omega) hevR hoR)
     have HT:=zH (fun W (hb:Below w2.heap.size w2 W)=>(hR2.out.ext (hb12.trans (hb.mono hb12.size))).time to_)
     have HB4:=zH (fun W (hb:Below w2.heap.size w2 W)=>(hR2.out.ext (hb12.trans (hb.mono hb12.size))).blk)
     have HK4:=zH (fun W (hb:Below w2.heap.size w2 W)=>(hR2.out.ext (hb12.trans (hb.mono hb12.size))).kp.blk)
     rw [eA] at HB4
     rw [hni] at HK4
     clear hoR hevR
     by_cases hwo:to_ - s.now < worstA (nth ac ni)
     ·have hx:=zH (hx1.out hwo)
      obtain ⟨n',hn',hw',hl'⟩:=hws.out _ hx.out
      have b3:decide (worstA (nth ac ni) > to_ - s.now)=true:=by simpa using hwo
      have hwr:IntKind.i64.wrap (to_ - s.now)=to_ - s.now:=IntWalk.i64_in _ (by omega)
      clear hbest hbi hbn hni hnt hnx hx1 hx2 HD hsp
      replace eA:=zH eA
      generalize worstA (nth ac ni)=wo at*
      generalize hav:nth ac ni=av at*
      have g0:w2.cell? ⟨gr,0,none⟩=some (.pointer (some ⟨gq,0,none⟩)):=cr3 0
      have g2:w2.cell? ⟨gr,2,none⟩=some (.slice (some ⟨bA,oA,none⟩) ac.length nl):=cr3 2
      have g3:w2.cell? ⟨gr,3,none⟩=some (.int .i64 s.now):=cr3 3
      have g4:w2.cell? ⟨gr,4,none⟩=some (.int .i64 to_):=cr3 4
      have g5:w2.cell? ⟨gq,12,none⟩=some (.int .i64 ni):=ck3 12
      go_wp2_with fail
      go_region_held3 (fun w'=>w'.cell? ⟨gr,0,none⟩=some (.pointer (some ⟨gq,0,none⟩))∧w'.cell? ⟨gr,2,none⟩=some (.slice (some ⟨bA,oA,none⟩) ac.length nl)∧w'.cell? ⟨gr,3,none⟩=some (.int .i64 s.now)∧w'.cell? ⟨gr,4,none⟩=some (.int .i64 to_)∧w'.cell? ⟨gq,12,none⟩=some (.int .i64 ni)∧w'.cell? ⟨bA,oA+ni*3,none⟩=some (.int .i64 av.kind)∧w'.cell? ⟨bA,oA+ni*3+1,none⟩=some (.int .i64 av.n)∧w'.cell? ⟨bA,oA+ni*3+2,none⟩=some (.int .i64 av.value)) (((try dsimp only);(repeat' apply And.intro)<;>(first|exact (Below.cell (B:=w2.heap.size) (w:=w2) byB (by first|assumption|omega)).trans (by assumption)|go_keep|(simp [go_sem, *];done)))) ((go_at_call 72;refine (HW.out _).mono ?_;rintro e w3 ⟨rfl,hb3⟩))
      have hb23:Below w2.heap.size w2 w3:=byB
      obtain ⟨cr4,fr4,zr4⟩:=blk (HB4.out w3 hb23)
      have hb9:=zH (HT.out w3 hb23)
      clear hb3
      go_wp2_with fail
      go_roundg n'
      case measure=>exact hn'
      case rel=>exact ⟨⟨to_,dR,s.k⟩,by rw [hx.out];exact hst.out,⟨_,_,hb9.out.1,(hEr.out.trans (REff.ext hR2.out.hB (hb12.trans (hb23.mono hb12.size)))).trans hb9.out.2⟩,hw',hl'⟩
     ·have hx:=zH (hx2.out hwo)
      obtain ⟨n',hn',hw',hl'⟩:=hws.out _ hx.out
      have b3:decide (worstA (nth ac ni) > to_ - s.now)=false:=by simpa using hwo
      have b3':decide (to_ - s.now < worstA (nth ac ni))=false:=by simpa using hwo
      replace hwo:worstA (nth ac ni)≤to_ - s.now:=by omega
      have hwr:IntKind.i64.wrap (to_ - s.now)=to_ - s.now:=IntWalk.i64_in _ (by omega)
      clear hbest hbi hbn hni hnt hnx hx1 hx2 HT hsp
      replace eA:=zH eA
      generalize worstA (nth ac ni)=wo at*
      generalize hav:nth ac ni=av at*
      have g0:w2.cell? ⟨gr,0,none⟩=some (.pointer (some ⟨gq,0,none⟩)):=cr3 0
      have g2:w2.cell? ⟨gr,2,none⟩=some (.slice (some ⟨bA,oA,none⟩) ac.length nl):=cr3 2
      have g3:w2.cell? ⟨gr,3,none⟩=some (.int .i64 s.now):=cr3 3
      have g4:w2.cell? ⟨gr,4,none⟩=some (.int .i64 to_):=cr3 4
      have g5:w2.cell? ⟨gq,12,none⟩=some (.int .i64 ni):=ck3 12
      go_wp2_with fail
      go_region_held3 (fun w'=>w'.cell? ⟨gr,0,none⟩=some (.pointer (some ⟨gq,0,none⟩))∧w'.cell? ⟨gr,2,none⟩=some (.slice (some ⟨bA,oA,none⟩) ac.length nl)∧w'.cell? ⟨gr,3,none⟩=some (.int .i64 s.now)∧w'.cell? ⟨gr,4,none⟩=some (.int .i64 to_)∧w'.cell? ⟨gq,12,none⟩=some (.int .i64 ni)∧w'.cell? ⟨bA,oA+ni*3,none⟩=some (.int .i64 av.kind)∧w'.cell? ⟨bA,oA+ni*3+1,none⟩=some (.int .i64 av.n)∧w'.cell? ⟨bA,oA+ni*3+2,none⟩=some (.int .i64 av.value)) (((try dsimp only);(repeat' apply And.intro)<;>(first|exact (Below.cell (B:=w2.heap.size) (w:=w2) byB (by first|assumption|omega)).trans (by assumption)|go_keep|(simp [go_sem, *];done)))) ((go_at_call 72;refine (HW.out _).mono ?_;rintro e w3 ⟨rfl,hb3⟩))
      have hb23:Below w2.heap.size w2 w3:=byB
      have y0':=(hb23.cell (p:=⟨bA,oA+ni*3,none⟩) hlA2).trans y0
      have y1':=(hb23.cell (p:=⟨bA,oA+ni*3+1,none⟩) hlA2).trans y1
      have y2':=(hb23.cell (p:=⟨bA,oA+ni*3+2,none⟩) hlA2).trans y2
      obtain ⟨cr4,fr4,zr4⟩:=blk (HB4.out w3 hb23)
      obtain ⟨ck4,fk4,zk4⟩:=blk (HK4.out w3 hb23)
      have HD3:=zH (fun W (hb:Below w3.heap.size w3 W)=>HD.out W (hb23.trans (hb.mono hb23.size)))
      clear hb3 HD
      go_upto_region 3 with (fail)
      (refine wp_region_still_tail 16 (by kernel_rfl) (by kernel_rfl) ?_;simp only [List.take_succ_cons,List.take_zero,List.drop_succ_cons,List.drop_zero];(iterate 16 (with_reducible refine wpStill_step (fun K hK=>?_);replace hK:=zH hK;go_simp;with_reducible refine hK.out _ ?_;clear hK K));refine wpStill_nil ?_)
      go_wp2_with fail
      go_at_call 73
      refine (HD3.out _ byB).mono ?_
      rintro e w5 ⟨rfl,G5,T5,_,hR5,hE5⟩
      replace hR5:=zH hR5
      have hEE:=zH ((hEr.out.trans (REff.ext hR2.out.hB (hb12.trans (Below.mono (hb23.trans (Below.mono byB hb23.size)) hb12.size)))).trans hE5)
      clear hE5
      go_wp2_with fail
      go_roundg n'
      case measure=>exact hn'
      case rel=>exact ⟨_,by rw [← hx.out] at hst;exact hst.out,⟨_,_,hR5.out,hEE.out⟩,hw',hl'⟩
  ·have bl:decide (s.now < to_)=false:=by simpa using hlt
   have hev1:s.d.events.length+44≤4398046511104:=by have:=hRO.ev;dsimp only at this;have:=h0.now;dsimp only at this;omega
   have hnt:s.now=to_:=by omega
   have hfin:=zH (show windowD c m d k ac now to_=releaseOf c m to_ s.d∧windowK c m d k ac now to_=s.k by
    have e:winOf c m d k ac now to_=s:=by
     unfold winOf
     rw [← hN.out,hw.out]
     cases gk with
     |zero=>rfl
     |succ n=>show (if s.now < to_ then _ else _)=_;rw [if_neg hlt]
    unfold windowD windowK
    rw [e];exact ⟨rfl,rfl⟩)
   have HC:=zH (fun W (hb:Below wr.heap.size wr W)=>(keeperCome gq G1 B W c S m to_ s.d T1 (hR1.ext hb).kp hc hRO.inn.ok (by omega) (by omega)).mono fun e w' ⟨G',T',he,hK,hE⟩=>(⟨he,G',T',hnt ▸ (hR1.ext hb).keeper hK hE,((REff.ext hR1.hB hb).trans hE.run)⟩:e=Ending.returned (.tuple #[])∧∃G' T',Rn gr gq G' F B w' c S m (releaseOf c m to_ s.d) T' s.k Ak nk ac Al nl to_ to_∧REff gr gq B F G1 G' wr w'))
   replace hR1:=zH hR1
   replace hnt:=zH hnt
   go_wp2_with fail
   go_quiet (fail)
   go_upto_region 8 with (fail)
   have hba:Below wr.heap.size wr (wr.drewN nq):=byB
   generalize wr.drewN nq=Wa at*
   obtain ⟨cra,fra,zra⟩:=blk ((hba.block _ zr).trans br)
   clear cr fr
   (refine wp_region_still_tail 8 (by kernel_rfl) (by kernel_rfl) ?_;simp only [List.take_succ_cons,List.take_zero,List.drop_succ_cons,List.drop_zero];(iterate 8 (with_reducible refine wpStill_step (fun K hK=>?_);replace hK:=zH hK;go_simp;with_reducible refine hK.out _ ?_;clear hK K));refine wpStill_nil ?_)
   go_wp2_with fail
   go_at_call 69
   refine (HC.out _ byB).mono ?_
   rintro e w1 ⟨rfl,G2,T2,hR2,hE2⟩
   replace hR2:=zH hR2
   replace hE2:=zH hE2
   replace hE1:=zH hE1
   go_wp2_with fail
   refine bodyPost_end (v:= .tuple #[]) (by simp [results,Tryd.results61,go_sem, *]) rfl ?_
   refine ⟨rfl,G2,T2,?_,hE1.out.trans hE2.out⟩
   rw [hfin.out.1,hfin.out.2];exact hR2.out
end
theorem raw_far0 {w:World}{g g' b:Nat}{u0 u1 u2 u3 u4 u5 u6 x:Value}(h:b≠g)(h':b≠g'):
  ((((((((w.setCell ⟨g,0,none⟩ u0).setCell ⟨g,1,none⟩ u1).setCell ⟨g,2,none⟩ u2).setCell ⟨g,3,none⟩ u3).setCell ⟨g,4,none⟩ u4).setCell ⟨g,5,none⟩ u5).setCell ⟨g,6,none⟩ u6).setCell ⟨g',0,none⟩ x).heap[b]?=w.heap[b]?:=heap_set_far (dom_far h) h'
theorem drew_heap (w:World):w.drew.heap=w.heap:=rfl
theorem raw_far {w:World}{g g' b:Nat}{u0 u1 u2 u3 u4 u5 u6 x:Value}(h:b≠g)(h':b≠g'):
  ((((((((w.setCell ⟨g,0,none⟩ u0).setCell ⟨g,1,none⟩ u1).setCell ⟨g,2,none⟩ u2).setCell ⟨g,3,none⟩ u3).setCell ⟨g,4,none⟩ u4).setCell ⟨g,5,none⟩ u5).setCell ⟨g,6,none⟩ u6).setCell ⟨g',0,none⟩ x).drew.heap[b]?=w.heap[b]?:=by rw [drew_heap];exact raw_far0 h h'
theorem raw_below {B g g':Nat}{w0 w:World}{u0 u1 u2 u3 u4 u5 u6 x:Value}(h:Below B w0 w)(hg:B≤g)(hg':B≤g'):
  Below B w0 (((((((((w.setCell ⟨g,0,none⟩ u0).setCell ⟨g,1,none⟩ u1).setCell ⟨g,2,none⟩ u2).setCell ⟨g,3,none⟩ u3).setCell ⟨g,4,none⟩ u4).setCell ⟨g,5,none⟩ u5).setCell ⟨g,6,none⟩ u6).setCell ⟨g',0,none⟩ x).drew):=Below.drew (Below.setCell (dom_below h hg) hg' _)
structure WEff (B:Nat) (F:Nat→Prop) (G G':Nat→Nat→Prop) (w w':World):Prop where
 below:Below B w w'
 keep:∀b,b < w.heap.size→(∀i,¬ G i b)→¬ F b→w'.heap[b]?=w.heap[b]?
 grow:∀i b,G' i b→G i b∨(w.heap.size≤b∧b < w'.heap.size)
section
variable {G : Nat → Nat → Prop} {F : Nat → Prop} {B : Nat} {c : TCfg} {S : TCfgS} {m : Int} {d : TDom} {T : TDomS} {k : List (List TWay)} {Ak : Option Addr} {nk : Nat} {ac : List TAct} {Al : Option Addr} {nl : Nat} {from_ to_ : Int}
def RawMid (G:Nat→Nat→Prop) (F:Nat→Prop) (B:Nat) (c:TCfg) (S:TCfgS) (m:Int) (d:TDom) (k:List (List TWay)) (Ak:Option Addr) (nk:Nat) (ac:List TAct) (Al:Option Addr) (nl:Nat) (to_:Int) (w W:World) (e:Ending) (w1:World):Prop:=
 e= .returned (.tuple #[])∧∃G' T',Rn (w.heap.size+6) (w.heap.size+5) G' F B w1 c S m d T' k Ak nk ac Al nl to_ to_∧WEff B F G G' w w1∧W.heap.size≤w1.heap.size∧(∀b,w.heap.size≤b→b < W.heap.size→b≠w.heap.size+6→b≠w.heap.size+5→w1.heap[b]?=W.heap[b]?)∧∀i b,G' i b→b < w.heap.size∨W.heap.size≤b
def RetRaw (G:Nat→Nat→Prop) (F:Nat→Prop) (B:Nat) (d:TDom) (k:List (List TWay)) (Ak:Option Addr) (nk:Nat) (w:World) (e:Ending) (w':World):Prop:=
 ∃T' G',e= .returned (.tuple #[.agg #[.slice T'.a0 d.jobs.length T'.n0,.slice T'.a1 d.released.length T'.n1,.int .i64 d.next,.slice T'.a2 d.ins.length T'.n2,.slice T'.a3 d.taken.length T'.n3,.slice T'.a4 d.outs.length T'.n4,.slice T'.a5 d.events.length T'.n5],.agg #[.slice Ak k.length nk]])∧DomO G' w' d T'∧OCache F w' (.slice Ak k.length nk) k∧WEff B F G G' w w'∧∀i b,G' i b→¬ F b
theorem windowRaw (hc:CfgOk c)(hl:ac.length≤60)(ha:∀i,i < ac.length→ActOk (nth ac i))(ht:to_≤100000)(h0:WinIn c m to_ ⟨from_,d,k⟩)(hev:d.events.length≤4194304)(ho:∀j,(nth d.outs j).length≤4194304)
  (w:World) (hB:B≤w.heap.size) (hs:TCfg.At (Low B) w c S) (hO:DomO G w d T) (hK:OCache F w (.slice Ak k.length nk) k) (hA:Sl cAct (Low B) w Al nl ac) (hG:∀i b,G i b→B≤b) (hF:∀b,F b→B≤b∧b < w.heap.size) (hGF:∀i b,G i b→¬ F b):
  Calls Tryd.prog 51 #[.agg #[.int .i64 c.sets,.int .i64 c.ways,.int .i64 c.doms,.int .i64 c.pad,.int .i64 c.quantum,.slice S.a0 c.slots.length S.n0,.slice S.a1 c.owners.length S.n1,.slice S.a2 c.chans.length S.n2,.slice S.a3 c.tasks.length S.n3],.int .i64 m,.agg #[.slice T.a0 d.jobs.length T.n0,.slice T.a1 d.released.length T.n1,.int .i64 d.next,.slice T.a2 d.ins.length T.n2,.slice T.a3 d.taken.length T.n3,.slice T.a4 d.outs.length T.n4,.slice T.a5 d.events.length T.n5],.agg #[.slice Ak k.length nk],.slice Al ac.length nl,.int .i64 from_,.int .i64 to_] w (RetRaw G F B (windowD c m d k ac from_ to_) (windowK c m d k ac from_ to_) Ak nk w):=by
 have HR:=zH (fun W (hb:Below w.heap.size w W) (hk:W.heap[w.heap.size+5]?=some (.cells #[.int .i64 c.sets,.int .i64 c.ways,.int .i64 c.doms,.int .i64 c.pad,.int .i64 c.quantum,.slice S.a0 c.slots.length S.n0,.slice S.a1 c.owners.length S.n1,.slice S.a2 c.chans.length S.n2,.slice S.a3 c.tasks.length S.n3,.int .i64 m,.slice T.a0 d.jobs.length T.n0,.slice T.a1 d.released.length T.n1,.int .i64 d.next,.slice T.a2 d.ins.length T.n2,.slice T.a3 d.taken.length T.n3,.slice T.a4 d.outs.length T.n4,.slice T.a5 d.events.length T.n5] 136)) (hr:W.heap[w.heap.size+6]?=some (.cells #[.pointer (some ⟨w.heap.size+5,0,none⟩),.slice Ak k.length nk,.slice Al ac.length nl,.int .i64 from_,.int .i64 to_] 138))=>
  (runnerRun (F:=F) (B:=B) (gr:=w.heap.size+6) (gq:=w.heap.size+5) (w:=W)
   ⟨hr,⟨hk,hs.next hB hb,hO.keep (fun i b hi=>hb.block b (hO.lt i b hi)) hb.size,fun i b hi=>⟨by have:=hO.lt i b hi;omega,hG i b hi⟩,by omega⟩,OSl.keep hK fun b hf=>hb.block b (hF b hf).2,hA.next hB hb,by omega,fun i b hi=>by have:=hO.lt i b hi;omega,fun b hf=>by have:=hF b hf;have:=hb.size;omega,hGF,by omega⟩ hc hl ha ht h0 hev ho).mono
   fun e w1 ⟨he,G',T',hR,hE⟩=>(⟨he,G',T',hR,⟨(hb.mono hB).trans hE.below,fun b hb1 hg hf=>(hE.keep b (Nat.lt_of_lt_of_le hb1 hb.size) (by omega) (by omega) hg hf).trans (hb.block b hb1),fun i b hi=>(hE.grow i b hi).imp id (And.imp_left (Nat.le_trans hb.size))⟩,hE.below.size,fun b h1 h2 h3 h4=>hE.keep b h2 h3 h4 (fun i hi=>by have:=hO.lt i b hi;omega) fun hf=>by have:=(hF b hf).2;omega,fun i b hi=>(hE.grow i b hi).imp (hO.lt i b) And.left⟩:
    RawMid G F B c S m (windowD c m d k ac from_ to_) (windowK c m d k ac from_ to_) Ak nk ac Al nl to_ w W e w1))
 generalize windowD c m d k ac from_ to_=d1 at*
 generalize windowK c m d k ac from_ to_=k1 at*
 clear hs hO hK hA h0 hev ho ha
 go_enter Tryd.func51,Tryd.ntmps51
 go_wp2_with fail
 go_at_call 61
 refine (HR.out _ byB byH byH).mono ?_
 rintro e w1 ⟨rfl,G1,T1,hR1,hE1,hz1,hk1,hg1⟩
 have hsz:w.heap.size+7≤w1.heap.size:=by simpa using hz1
 replace hg1:∀i b,G1 i b→b < w.heap.size∨w.heap.size+7≤b:=by simpa using hg1
 replace hg1:=zH hg1
 have x3:=hk1 (w.heap.size+3) (by omega) (by simp) (by omega) (by omega)
 have x4:=hk1 (w.heap.size+4) (by omega) (by simp) (by omega) (by omega)
 have b3:w1.heap[w.heap.size+3]?=some (.cells #[.slice none 0 0,.slice none 0 0,.int .i64 0,.slice none 0 0,.slice none 0 0,.slice none 0 0,.slice none 0 0] 46):=x3.trans byH
 have b4:w1.heap[w.heap.size+4]?=some (.cells #[.slice none 0 0] 66):=x4.trans byH
 clear x3 x4 hk1 HR
 obtain ⟨cr,fr,zr⟩:=blk hR1.blk
 obtain ⟨ck,fk,zk⟩:=blk hR1.kp.blk
 obtain ⟨c3,f3,z3⟩:=blk b3
 obtain ⟨c4,f4,z4⟩:=blk b4
 replace hR1:=zH hR1
 replace hE1:=zH hE1
 go_wp2_with fail
 go_region_held3 (fun w'=>(∀oo,w'.cell? ⟨w.heap.size+6,oo,none⟩=#[.pointer (some ⟨w.heap.size+5,0,none⟩),.slice Ak k1.length nk,.slice Al ac.length nl,.int .i64 to_,.int .i64 to_][oo]?)∧(∀oo,w'.cell? ⟨w.heap.size+5,oo,none⟩=#[.int .i64 c.sets,.int .i64 c.ways,.int .i64 c.doms,.int .i64 c.pad,.int .i64 c.quantum,.slice S.a0 c.slots.length S.n0,.slice S.a1 c.owners.length S.n1,.slice S.a2 c.chans.length S.n2,.slice S.a3 c.tasks.length S.n3,.int .i64 m,.slice T1.a0 d1.jobs.length T1.n0,.slice T1.a1 d1.released.length T1.n1,.int .i64 d1.next,.slice T1.a2 d1.ins.length T1.n2,.slice T1.a3 d1.taken.length T1.n3,.slice T1.a4 d1.outs.length T1.n4,.slice T1.a5 d1.events.length T1.n5][oo]?)) (((try dsimp only);(repeat' apply And.intro)<;>(first|go_keep|(simp [go_sem, *];done)))) (fail)
 go_wp2_with fail
 have e3:=dom_set (u0:= .slice T1.a0 d1.jobs.length T1.n0) (u1:= .slice T1.a1 d1.released.length T1.n1) (u2:= .int .i64 d1.next) (u3:= .slice T1.a2 d1.ins.length T1.n2) (u4:= .slice T1.a3 d1.taken.length T1.n3) (u5:= .slice T1.a4 d1.outs.length T1.n4) (u6:= .slice T1.a5 d1.events.length T1.n5) b3
 obtain ⟨c9,f9,z9⟩:=blk (heap_set_far (p:=⟨w.heap.size+4,0,none⟩) (u:= .slice Ak k1.length nk) e3 (by simp))
 obtain ⟨c8,f8,z8⟩:=blk (heap_set_same (i:=0) (u:= .slice Ak k1.length nk) ((dom_far (u0:= .slice T1.a0 d1.jobs.length T1.n0) (u1:= .slice T1.a1 d1.released.length T1.n1) (u2:= .int .i64 d1.next) (u3:= .slice T1.a2 d1.ins.length T1.n2) (u4:= .slice T1.a3 d1.taken.length T1.n3) (u5:= .slice T1.a4 d1.outs.length T1.n4) (u6:= .slice T1.a5 d1.events.length T1.n5) (show w.heap.size+4≠w.heap.size+3 by omega)).trans b4))
 refine bodyPost_ret (v:= .tuple #[.agg #[.slice T1.a0 d1.jobs.length T1.n0,.slice T1.a1 d1.released.length T1.n1,.int .i64 d1.next,.slice T1.a2 d1.ins.length T1.n2,.slice T1.a3 d1.taken.length T1.n3,.slice T1.a4 d1.outs.length T1.n4,.slice T1.a5 d1.events.length T1.n5],.agg #[.slice Ak k1.length nk]]) (by simp [results,Tryd.results51,go_sem, *]) rfl ?_
 refine ⟨T1,G1,rfl,hR1.out.kp.dom.keep (fun i b hi=>raw_far (by have:=hg1.out i b hi;omega) (by have:=hg1.out i b hi;omega)) (by simp),OSl.keep hR1.out.own fun b hf=>raw_far (by have:=(hF b hf).2;omega) (by have:=(hF b hf).2;omega),⟨raw_below hE1.out.below (by omega) (by omega),fun b hb hg hf=>(raw_far (by omega) (by omega)).trans (hE1.out.keep b hb hg hf),fun i b hi=>(hE1.out.grow i b hi).imp id (fun h=>⟨h.1,by simpa using h.2⟩)⟩,hR1.out.FG⟩
end
end
end Go.Proofs.YtinlmkhlgclbfabDoor
