/- WinT -/
import Derived.Test.YtinlmkhlgclbfabWv40
import Derived.Test.YtinlmkhlgclbfabWv41
import Derived.Test.YtinlmkhlgclbfabWv47
namespace Go.Proofs.Ytinlmkhlgclbfab
open Go.RowKit
set_option maxRecDepth 100000
set_option maxHeartbeats 8000000
def RetWinR (d:TDom) (k:List (List TWay)) (w:World) (e:Ending) (w':World):Prop:=
 ∃T G A n,e= .returned (.tuple #[.agg #[.slice T.a0 d.jobs.length T.n0,.slice T.a1 d.released.length T.n1,.int .i64 d.next,.slice T.a2 d.ins.length T.n2,.slice T.a3 d.taken.length T.n3,.slice T.a4 d.outs.length T.n4,.slice T.a5 d.events.length T.n5],.agg #[.slice A k.length n]])∧DomO G w' d T∧(∀i b,G i b→w.heap.size≤b)∧(∃F,Sl cWay.slice F w' A n k∧∀b,F b→b < w'.heap.size∧(b+2 < w.heap.size∨w.heap.size≤b))∧Below w.heap.size w w'
def WmR (w:World) (c:TCfg) (S:TCfgS) (d:TDom) (k:List (List TWay)) (W:World):Prop:=∃G T A n F,WmG w c S (fun _=>False) d k W G T A n F
theorem WmG.toR {w:World}{c:TCfg}{S:TCfgS}{E:Nat→Prop}{d:TDom}{k:List (List TWay)}{W:World}{G:Nat→Nat→Prop}{T:TDomS}{A:Option Addr}{n:Nat}{F:Nat→Prop}(h:WmG w c S E d k W G T A n F):WmR w c S d k W:=
 ⟨G,T,A,n,F,h.dp,h.kb,h.kr,h.ff,h.gg,h.below,h.b0,h.b3,h.b4,fun _ h=>h.elim⟩
theorem WmG.start {w w1:World}{B:Nat}{c:TCfg}{S:TCfgS}{d:TDom}{T T1:TDomS}{G1:Nat→Nat→Prop}{k:List (List TWay)}{Ak:Option Addr}{nk:Nat}(hB:B+2≤w.heap.size)(hs:TCfg.At (Low B) w c S)(hk:Sl cWay.slice (Low B) w Ak nk k)(hb:Below w.heap.size w w1)
  (x0:w1.heap[w.heap.size]?=some (.cells #[.int .i64 c.sets,.int .i64 c.ways,.int .i64 c.doms,.int .i64 c.pad,.int .i64 c.quantum,.slice S.a0 c.slots.length S.n0,.slice S.a1 c.owners.length S.n1,.slice S.a2 c.chans.length S.n2,.slice S.a3 c.tasks.length S.n3] 27)) (x1:w1.heap[w.heap.size+1]?=some (.cells #[.slice T.a0 d.jobs.length T.n0,.slice T.a1 d.released.length T.n1,.int .i64 d.next,.slice T.a2 d.ins.length T.n2,.slice T.a3 d.taken.length T.n3,.slice T.a4 d.outs.length T.n4,.slice T.a5 d.events.length T.n5] 45)) (x2:w1.heap[w.heap.size+2]?=some (.cells #[.slice Ak k.length nk] 63)) (x3:w1.heap[w.heap.size+3]?=some (.cells #[.slice none 0 0,.slice none 0 0,.int .i64 0,.slice none 0 0,.slice none 0 0,.slice none 0 0,.slice none 0 0] 45)) (x4:w1.heap[w.heap.size+4]?=some (.cells #[.slice none 0 0] 63))
  (hO:DomO G1 w1 d T1) (hG:∀i b,G1 i b→w.heap.size+5≤b):WmR w c S d k (((((((w1.setCell ⟨w.heap.size+1,0,none⟩ (.slice T1.a0 d.jobs.length T1.n0)).setCell ⟨w.heap.size+1,1,none⟩ (.slice T1.a1 d.released.length T1.n1)).setCell ⟨w.heap.size+1,2,none⟩ (.int .i64 d.next)).setCell ⟨w.heap.size+1,3,none⟩ (.slice T1.a2 d.ins.length T1.n2)).setCell ⟨w.heap.size+1,4,none⟩ (.slice T1.a3 d.taken.length T1.n3)).setCell ⟨w.heap.size+1,5,none⟩ (.slice T1.a4 d.outs.length T1.n4)).setCell ⟨w.heap.size+1,6,none⟩ (.slice T1.a5 d.events.length T1.n5)):=by
 have kp:∀b,b≠w.heap.size+1→(((((((w1.setCell ⟨w.heap.size+1,0,none⟩ (.slice T1.a0 d.jobs.length T1.n0)).setCell ⟨w.heap.size+1,1,none⟩ (.slice T1.a1 d.released.length T1.n1)).setCell ⟨w.heap.size+1,2,none⟩ (.int .i64 d.next)).setCell ⟨w.heap.size+1,3,none⟩ (.slice T1.a2 d.ins.length T1.n2)).setCell ⟨w.heap.size+1,4,none⟩ (.slice T1.a3 d.taken.length T1.n3)).setCell ⟨w.heap.size+1,5,none⟩ (.slice T1.a4 d.outs.length T1.n4)).setCell ⟨w.heap.size+1,6,none⟩ (.slice T1.a5 d.events.length T1.n5)).heap[b]?=w1.heap[b]?:=fun b hb=>dom_far hb
 refine ⟨G1,T1,Ak,nk,Low B,⟨dom_set x1,(hs.up (by omega)).keep fun b hb1=>?_,hO.keep (fun i b hi=>kp b (by have:=hG i b hi;omega)) (by simp),fun i b hi=>by have:=hG i b hi;omega,by omega⟩,(kp _ (by omega)).trans x2,(hk.keep fun b hb1=>?_),fun b hb1=>?_,hG,dom_below hb (by omega),(kp _ (by omega)).trans x0,(kp _ (by omega)).trans x3,(kp _ (by omega)).trans x4,fun _ h=>h.elim⟩
 ·have hb':b < w.heap.size:=hb1
  exact (kp b (by omega)).trans (hb.block b hb')
 ·have hb':b < B:=hb1
  exact (kp b (by omega)).trans (hb.block b (by omega))
 ·have hb':b < B:=hb1
  have:=hb.size
  exact ⟨by simp;omega,.inl (by omega),fun i hi=>by have:=hG i b hi;omega⟩
structure RunW (c:TCfg) (m to_:Int) (s0 s:Win):Prop where
 inn:WinIn c m to_ s
 ev:(s.d.events.length:Int)≤s0.d.events.length+44*(s.now - s0.now)
 outs:∀j,((nth s.d.outs j).length:Int)≤(nth s0.d.outs j).length+(s.now - s0.now)
theorem RunW.step {c:TCfg}{m to_:Int}{s0 s:Win}{l:List TAct}(hc:CfgOk c)(hl:l.length≤60)(ha:∀i,i < l.length→ActOk (nth l i))(ht:to_≤100000)(h:RunW c m to_ s0 s)(hlt:s.now < to_):RunW c m to_ s0 (winStep c m l to_ s)∧s.now < (winStep c m l to_ s).now:=by
 have h1:=winStep_ok hc hl ha ht h.inn hlt
 have h2:=winStep_grow (c:=c) (dom:=m) (to_:=to_) (l:=l) h.inn.ok.njobs
 refine ⟨⟨h1.1,?_,fun j=>?_⟩,h1.2⟩
 ·have:=h.ev;have:=h2.1;omega
 ·have:=h.outs j;have:=h2.2.2 j;omega
theorem refWindowOf (c:TCfg)(S:TCfgS)(m:Int)(d:TDom)(T:TDomS)(k:List (List TWay))(Ak:Option Addr)(nk:Nat)(ac:List TAct)(Al:Option Addr)(nl:Nat)(from_ to_:Int)(hc:CfgOk c)(hl:ac.length≤60)(ha:∀i,i < ac.length→ActOk (nth ac i))(ht:to_≤100000)(h0:WinIn c m to_ ⟨from_,d,k⟩)(hz:DomSz d)(hev:d.events.length≤4194304)(ho:∀j,(nth d.outs j).length≤4194304)
  (B:Nat) (w:World) (hB2:B+2≤w.heap.size) (hs:TCfg.At (Low B) w c S) (hd:TDom.At (Low B) w d T) (hk:Sl cWay.slice (Low B) w Ak nk k) (hA:Sl cAct (Low B) w Al nl ac):
  Calls Try.prog 35 #[.agg #[.int .i64 c.sets,.int .i64 c.ways,.int .i64 c.doms,.int .i64 c.pad,.int .i64 c.quantum,.slice S.a0 c.slots.length S.n0,.slice S.a1 c.owners.length S.n1,.slice S.a2 c.chans.length S.n2,.slice S.a3 c.tasks.length S.n3],.int .i64 m,.agg #[.slice T.a0 d.jobs.length T.n0,.slice T.a1 d.released.length T.n1,.int .i64 d.next,.slice T.a2 d.ins.length T.n2,.slice T.a3 d.taken.length T.n3,.slice T.a4 d.outs.length T.n4,.slice T.a5 d.events.length T.n5],.agg #[.slice Ak k.length nk],.slice Al ac.length nl,.int .i64 from_,.int .i64 to_] w (RetWinR (windowD c m d k ac from_ to_) (windowK c m d k ac from_ to_) w):=by
 have hB:B≤w.heap.size:=by omega
 have HC:=zH (fun W (h:Below w.heap.size w W)=>refCopyDomain d T hz B W (Nat.le_trans hB h.size) (hd.next hB h))
 have hR:=zH (⟨h0,by dsimp only;omega,fun j=>by dsimp only;omega⟩:RunW c m to_ ⟨from_,d,k⟩ ⟨from_,d,k⟩)
 have HS:=zH (fun (w1:World) (T1:TDomS) (G1:Nat→Nat→Prop) (hb:Below w.heap.size w w1)=>@WmG.start w w1 B c S d T T1 G1 k Ak nk hB2 hs hk hb)
 obtain ⟨N,hN⟩:∃N,N=(to_ - from_).toNat:=⟨_,rfl⟩
 have hN2:to_ - from_≤N:=by omega
 replace hN:=zH hN
 have hAl:=zH hA
 have hac:=Nat.le_trans hA.cap hA.max
 unfold maxLen at hac
 clear hs hd hk hA
 go_enter Try.func35,Try.ntmps35
 go_wp2_with fail
 go_at_call 58
 refine (HC.out _ byB).mono ?_
 rintro e w1 ⟨T1,G1,rfl,hO1,hG1,hb1⟩
 have hwW:Below w.heap.size w w1:=byB
 have hW1:=HS.out w1 T1 G1 hwW ((hb1.block _ byS).trans byH) ((hb1.block _ byS).trans byH) ((hb1.block _ byS).trans byH) ((hb1.block _ byS).trans byH) ((hb1.block _ byS).trans byH) hO1 (fun i b hb=>by have:=hG1 i b hb;simpa using this)
 have x1:w1.heap[w.heap.size+1]?=some (.cells #[.slice T.a0 d.jobs.length T.n0,.slice T.a1 d.released.length T.n1,.int .i64 d.next,.slice T.a2 d.ins.length T.n2,.slice T.a3 d.taken.length T.n3,.slice T.a4 d.outs.length T.n4,.slice T.a5 d.events.length T.n5] 45):=(hb1.block _ byS).trans byH
 obtain ⟨cx1,fx1,zx1⟩:=blk x1
 have x2:w1.heap[w.heap.size+2]?=some (.cells #[.slice Ak k.length nk] 63):=(hb1.block _ byS).trans byH
 replace hW1:=zH hW1
 clear HS HC hO1 hG1 hb1
 go_wp2_with fail
 generalize (((((((w1.setCell ⟨w.heap.size+1,0,none⟩ (.slice T1.a0 d.jobs.length T1.n0)).setCell ⟨w.heap.size+1,1,none⟩ (.slice T1.a1 d.released.length T1.n1)).setCell ⟨w.heap.size+1,2,none⟩ (.int .i64 d.next)).setCell ⟨w.heap.size+1,3,none⟩ (.slice T1.a2 d.ins.length T1.n2)).setCell ⟨w.heap.size+1,4,none⟩ (.slice T1.a3 d.taken.length T1.n3)).setCell ⟨w.heap.size+1,5,none⟩ (.slice T1.a4 d.outs.length T1.n4)).setCell ⟨w.heap.size+1,6,none⟩ (.slice T1.a5 d.events.length T1.n5))=Wb at*
 clear cx1 fx1 zx1 x1 x2 hwW
 go_loopw [5] (fun nv wr=>∃(n:Nat) (s:Win),RunW c m to_ ⟨from_,d,k⟩ s∧nv= .int .i64 s.now∧WmR w c S s.d s.k wr∧Hid (winLoop c m ac to_ N ⟨from_,d,k⟩=winLoop c m ac to_ n s)∧to_ - s.now≤n) (fun nv _=>(to_ - intOf nv).toNat)
 case atStart=>exact ⟨N,_,hR.out,rfl,hW1.out,zH rfl,hN2⟩
 case round=>
  obtain ⟨n,s,hRO,rfl,⟨G0,T0,A0,n0,F0,hWm⟩,hw,hle⟩:=hrel
  have hin:=hRO.inn.now
  by_cases hlt:s.now < to_
  ·have bl:decide (s.now < to_)=true:=by simpa using hlt
   have hev1:s.d.events.length+44≤4398046511104:=by have:=hRO.ev;dsimp only at this;have:=h0.now;dsimp only at this;omega
   have hsz:=hWm.size
   have HRel:=zH (fun W (hb:Below wr.heap.size wr W)=>refReleaseOf c S m s.now s.d T0 hc hRO.inn.ok (by omega) (by omega) G0 w.heap.size W (by have:=hb.size;omega) (hWm.ext hb).dp.cfg (hWm.ext hb).dp.dom fun i b hi=>((hWm.ext hb).dp.apart i b hi).2)
   have hb0:=hWm.b0
   have hbd:=hWm.dp.blk
   obtain ⟨c0,f0,z0⟩:=blk hb0
   obtain ⟨cd,fd,zd⟩:=blk hbd
   have hws:∀x,x=winStep c m ac to_ s→RunW c m to_ ⟨from_,d,k⟩ x∧(∃n',Hid (winLoop c m ac to_ N ⟨from_,d,k⟩=winLoop c m ac to_ n' x)∧to_ - x.now≤n')∧(to_ - x.now).toNat < (to_ - s.now).toNat:=by
    rintro x rfl
    have h2:=hRO.step hc hl ha ht hlt
    refine ⟨h2.1,?_,by have:=h2.2;have:=h2.1.inn.now;omega⟩
    cases n with
    |zero=>omega
    |succ n=>exact ⟨n,zH (by rw [hw.out];show (if s.now < to_ then _ else _)=_;rw [if_pos hlt]),by omega⟩
   have hdR:=release_okW (dom:=m) hc (show s.now≤100000 by omega) hRO.inn.ok
   have hgr:=release_grow c m s.now s.d hRO.inn.ok.njobs
   have hko:=hRO.inn.cache
   have hws:=zH hws
   have hWh:=zH hWm
   replace hw:=zH hw
   have hRh:=zH hRO
   clear hWm hRO
   go_wp2_with fail
   go_at_call 73
   refine (HRel.out _ byB).mono ?_
   rintro e w2 ⟨T2,G2,rfl,hO2,hE2⟩
   obtain ⟨dR,hdr⟩:∃x,x=releaseOf c m s.now s.d:=⟨_,rfl⟩
   rw [← hdr] at hO2 hdR hgr⊢
   replace hdr:=zH hdr
   obtain ⟨hW2,x2,_⟩:=hWh.out.put hO2 hE2
   obtain ⟨cx2,fx2,zx2⟩:=blk x2
   replace hW2:=zH hW2
   clear hO2 hE2 HRel
   go_upto_region 4 with (fail)
   generalize (((((((w2.setCell ⟨w.heap.size+1,0,none⟩ (.slice T2.a0 dR.jobs.length T2.n0)).setCell ⟨w.heap.size+1,1,none⟩ (.slice T2.a1 dR.released.length T2.n1)).setCell ⟨w.heap.size+1,2,none⟩ (.int .i64 dR.next)).setCell ⟨w.heap.size+1,3,none⟩ (.slice T2.a2 dR.ins.length T2.n2)).setCell ⟨w.heap.size+1,4,none⟩ (.slice T2.a3 dR.taken.length T2.n3)).setCell ⟨w.heap.size+1,5,none⟩ (.slice T2.a4 dR.outs.length T2.n4)).setCell ⟨w.heap.size+1,6,none⟩ (.slice T2.a5 dR.events.length T2.n5))=W3 at*
   clear cx2 fx2 zx2 x2 c0 f0 z0 cd fd zd hb0 hbd
   have hWm:=hW2.out
   have hs3:=hWm.size
   have hP:=zH (fun W (hb:Below W3.heap.size W3 W)=>refPickOf c S m dR T2 hc hdR W3.heap.size W hb.size ((hWm.dp.cfg.up (by omega)).next (Nat.le_refl _) hb) ((hWm.dp.dom.read fun i b hi=>hWm.dp.dom.lt i b hi).next (Nat.le_refl _) hb))
   have hDu:=zH (fun W (hb:Below W3.heap.size W3 W)=>refDueOf c S m dR T2 hc hdR W3.heap.size W hb.size ((hWm.dp.cfg.up (by omega)).next (Nat.le_refl _) hb) ((hWm.dp.dom.read fun i b hi=>hWm.dp.dom.lt i b hi).next (Nat.le_refl _) hb))
   obtain ⟨c3,f3,z3⟩:=blk hWm.b0
   obtain ⟨cd3,fd3,zd3⟩:=blk hWm.dp.blk
   clear hWm
   go_wp2_with fail
   go_at_call 74
   refine (hP.out _ byB).mono ?_
   rintro e w4 ⟨rfl,hb4⟩
   have hb34:Below W3.heap.size W3 w4:=byB
   have hW4:=zH (hW2.out.ext hb34)
   obtain ⟨c4,f4,z4⟩:=blk hW4.out.b0
   obtain ⟨cd4,fd4,zd4⟩:=blk hW4.out.dp.blk
   clear c3 f3 z3 cd3 fd3 zd3 hP
   by_cases hbest:bestOf c dR.jobs < 0
   ·as_aux_lemma=>
    have b1:decide (bestOf c dR.jobs < 0)=true:=by simpa using hbest
    have hx:=zH (show (⟨idleTo to_ (dueOf c m dR),dR,s.k⟩:Win)=winStep c m ac to_ s by unfold winStep;dsimp only;rw [← hdr.out,if_pos hbest])
    obtain ⟨hRn,⟨n',hw',hl'⟩,hlt'⟩:=hws.out _ hx.out
    dsimp only at hlt' hl'
    generalize bestOf c dR.jobs=bi at*
    generalize dueOf c m dR=D at*
    replace hRn:=zH hRn
    have hid:(D < 0→idleTo to_ D=to_)∧(to_ < D→idleTo to_ D=to_)∧(0≤D→D≤to_→idleTo to_ D=D):=by unfold idleTo;refine ⟨fun h=>if_neg (by omega),fun h=>if_neg (by omega),fun h1 h2=>?_⟩;split<;>omega
    replace hid:=zH hid
    clear hbest
    go_wp2_with fail
    go_at_call 75
    refine (hDu.out _ byB).mono ?_
    rintro e w5 ⟨rfl,hb5⟩
    have hW5:=zH (hW4.out.ext hb5)
    clear c4 f4 z4 cd4 fd4 zd4
    by_cases d1:D < 0
    ·have b2:decide (D < 0)=true:=by simpa using d1
     have hi:=hid.out.1 d1
     rw [hi] at hRn hl' hlt' hw'
     replace hi:=zH hi
     go_wp2_with fail
     go_roundw
     case rel=>exact ⟨n',_,hRn.out,rfl,hW5.out.toR,hw',hl'⟩
     case measure=>exact hlt'
    ·have b2:decide (D < 0)=false:=by simpa using d1
     by_cases d2:to_ < D
     ·have b3:decide (D > to_)=true:=by simpa using d2
      have hi:=hid.out.2.1 d2
      rw [hi] at hRn hl' hlt' hw'
      replace hi:=zH hi
      go_wp2_with fail
      go_roundw
      case rel=>exact ⟨n',_,hRn.out,rfl,hW5.out.toR,hw',hl'⟩
      case measure=>exact hlt'
     ·have b3:decide (D > to_)=false:=by simp;omega
      have hi:=hid.out.2.2 (by omega) (by omega)
      rw [hi] at hRn hl' hlt' hw'
      replace hi:=zH hi
      go_wp2_with fail
      go_roundw
      case rel=>exact ⟨n',_,hRn.out,rfl,hW5.out.toR,hw',hl'⟩
      case measure=>exact hlt'
   ·have b1:decide (bestOf c dR.jobs < 0)=false:=by simpa using hbest
    have hbl:=best_lt hbest
    obtain ⟨bi,hbi⟩:∃bi:Nat,bestOf c dR.jobs=(bi:Int):=⟨(bestOf c dR.jobs).toNat,by omega⟩
    have hbn:(bestOf c dR.jobs).toNat=bi:=by omega
    rw [hbn] at hbl
    have hnn:=hdR.next
    clear hDu
    by_cases hnx:(ac.length:Int)≤dR.next
    ·as_aux_lemma=>
     have hx:=zH (show (⟨to_,dR,s.k⟩:Win)=winStep c m ac to_ s by unfold winStep;dsimp only;rw [← hdr.out,if_neg hbest,if_pos (.inl hnx)])
     obtain ⟨hRn,⟨n',hw',hl'⟩,hlt'⟩:=hws.out _ hx.out
     dsimp only at hlt' hl'
     have b2:decide (dR.next≥(ac.length:Int))=true:=by simpa using hnx
     rw [hbi] at b1⊢
     replace hRn:=zH hRn
     clear hbest hnx hbi hbn
     go_wp2_with fail
     go_roundw
     case rel=>exact ⟨n',_,hRn.out,rfl,hW4.out.toR,hw',hl'⟩
     case measure=>exact hlt'
    ·obtain ⟨ni,hni⟩:∃ni:Nat,dR.next=(ni:Int):=⟨dR.next.toNat,by omega⟩
     have hnl:ni < ac.length:=by omega
     have hnt:dR.next.toNat=ni:=by omega
     obtain ⟨bA,oA,eA,hIA,y0,y1,y2⟩:=(hAl.out.next hB hW4.out.below).at_act hnl
     have hlA:bA < w4.heap.size:=Nat.lt_of_lt_of_le hIA (Nat.le_trans hB hW4.out.below.size)
     have hAo:=ha ni hnl
     have hWo:=zH (fun W=>refWorstOf (nth ac ni) W)
     have b2:decide ((ni:Int)≥(ac.length:Int))=false:=by simp;omega
     have b2n:decide (ac.length≤ni)=false:=by simp;omega
     have i0:(0:Int)≤(ni:Int):=by omega
     have i1:(ni:Int) < ac.length:=by omega
     rw [hbi] at b1⊢
     rw [hni] at cd4
     have hsp:=spend_bd (k:=s.k) hAo
     have hwb:=worstA_bd hAo
     have hx1:=zH (show to_ - s.now < worstA (nth ac ni)→(⟨to_,dR,s.k⟩:Win)=winStep c m ac to_ s from fun hwo=>by unfold winStep;dsimp only;rw [← hdr.out,if_neg hbest,if_pos (.inr (by rw [hnt];exact hwo))])
     have hx2:=zH (show ¬ to_ - s.now < worstA (nth ac ni)→(⟨s.now+spendN s.k (nth ac ni),doA c m s.now bi (nth ac ni) (spendN s.k (nth ac ni)) dR,spendK s.k (nth ac ni)⟩:Win)=winStep c m ac to_ s from fun hwo=>by unfold winStep;dsimp only;rw [← hdr.out,if_neg hbest,if_neg (by rw [hnt];omega),hbn,hnt])
     subst eA
     by_cases hwo:to_ - s.now < worstA (nth ac ni)
     ·as_aux_lemma=>
      have hx:=zH (hx1.out hwo)
      obtain ⟨hRn,⟨n',hw',hl'⟩,hlt'⟩:=hws.out _ hx.out
      dsimp only at hlt' hl'
      have b3:decide (s.now+worstA (nth ac ni) > to_)=true:=by simp;omega
      replace hRn:=zH hRn
      clear hbest hbi hbn hni hnt hnx hx1 hx2
      generalize worstA (nth ac ni)=wo at*
      generalize hav:nth ac ni=av at*
      go_wp2_with fail
      go_at_call 28
      refine (hWo.out _).mono ?_
      rintro e w5 ⟨rfl,hb5⟩
      have hW5:=zH (hW4.out.ext hb5)
      go_wp2_with fail
      go_roundw
      case rel=>exact ⟨n',_,hRn.out,rfl,hW5.out.toR,hw',hl'⟩
      case measure=>exact hlt'
     ·as_aux_lemma=>
      have hx:=zH (hx2.out hwo)
      obtain ⟨hRn,⟨n',hw',hl'⟩,hlt'⟩:=hws.out _ hx.out
      have b3:decide (s.now+worstA (nth ac ni) > to_)=false:=by simp;omega
      replace hRn:=zH hRn
      have hko':=hko
      have hevd:dR.events.length+4≤4398046511104:=by omega
      have houd:∀j,j < dR.outs.length→(nth dR.outs j).length+1≤4398046511104:=fun j _=>by
       have e1:dR.outs=s.d.outs:=by rw [hdr.out];exact release_outs c m s.now s.d
       rw [e1]
       have e2:=hRh.out.outs j;have e3:=h0.now;have e4:=ho j
       dsimp only at e2 e3;omega
      have hnx1:dR.next < 100000:=by omega
      clear hbest hbi hbn hnt hnx hx1 hx2 hws
      replace hx:=zH hx
      obtain ⟨wo,hwod⟩:∃x,x=worstA (nth ac ni):=⟨_,rfl⟩
      rw [← hwod] at hwo hsp hwb b3 hWo
      replace hwod:=zH hwod
      obtain ⟨av,hav⟩:∃x,x=nth ac ni:=⟨_,rfl⟩
      rw [← hav] at hAo y0 y1 y2 hWo hsp
      replace hav:=zH hav
      go_wp2_with fail
      go_at_call 28
      refine (hWo.out _).mono ?_
      rintro e w5 ⟨rfl,hb5⟩
      have hW5:=zH (hW4.out.ext hb5)
      have hbA5:bA < w5.heap.size:=Nat.lt_of_lt_of_le hlA hb5.size
      replace y0:=(hb5.cell (p:=⟨bA,oA+ni*3,none⟩) hlA).trans y0
      replace y1:=(hb5.cell (p:=⟨bA,oA+ni*3+1,none⟩) hlA).trans y1
      replace y2:=(hb5.cell (p:=⟨bA,oA+ni*3+2,none⟩) hlA).trans y2
      have hbd5:=hW5.out.dp.blk
      rw [hni] at hbd5
      obtain ⟨gj,ej,_,hgj,hjg,hjc,hjf,_⟩:=hW5.out.job hbl
      rw [ej] at hbd5
      obtain ⟨c5,f5,z5⟩:=blk hW5.out.b0
      obtain ⟨cd5,fd5,zd5⟩:=blk hbd5
      replace hni:=zH hni
      have j0:w5.cell? ⟨gj,bi*6,none⟩=some (.int .i64 (nth dR.jobs bi).task):=hjc 0 _ rfl
      have j1:=hjc 1 _ rfl
      have j2:=hjc 2 _ rfl
      have j3:=hjc 3 _ rfl
      have j4:=hjc 4 _ rfl
      have j5:=hjc 5 _ rfl
      have k0:(0:Int)≤(bi:Int):=by omega
      have k1:(bi:Int) < dR.jobs.length:=by omega
      have hal1:=hW5.out.alloc (.cells #[.int .i64 av.kind,.int .i64 av.n,.int .i64 av.value] 65)
      have hal2:=hal1.1.alloc (.cells #[.int .i64 (nth dR.jobs bi).task,.int .i64 (nth dR.jobs bi).number,.int .i64 (nth dR.jobs bi).released,.int .i64 (nth dR.jobs bi).used,.bool (nth dR.jobs bi).ran,.bool (nth dR.jobs bi).missed] 110)
      have hJ0:WmJ w c S w5.heap.size (w5.heap.size+1) av dR s.k (nth dR.jobs bi) ((w5.alloc (.cells #[.int .i64 av.kind,.int .i64 av.n,.int .i64 av.value] 65)).alloc (.cells #[.int .i64 (nth dR.jobs bi).task,.int .i64 (nth dR.jobs bi).number,.int .i64 (nth dR.jobs bi).released,.int .i64 (nth dR.jobs bi).used,.bool (nth dR.jobs bi).ran,.bool (nth dR.jobs bi).missed] 110)):=
       ⟨by omega,_,_,_,_,_,hal2.1.sub (fun b hb=>by rcases hb with rfl|rfl;exact .inl (.inr rfl);exact .inr (by simp)),(hal2.2.2 _ (.inr rfl)).trans hal1.2.1,by have:=hal2.2.1;simpa using this⟩
      replace hJ0:=zH hJ0
      clear hal1 hal2 hjc c4 f4 z4 cd4 fd4 zd4 hbd5 hWo
      have hn2':0≤s.now∧s.now+worstA av≤100000:=by have h1:=hwod.out;rw [← hav.out] at h1;omega
      go_upto_region 12 with (fail)
      go_cut [18] from 328 (fun v wx=>v= .pointer (some ⟨w5.heap.size+1,0,none⟩)∧wx=(w5.alloc (.cells #[.int .i64 av.kind,.int .i64 av.n,.int .i64 av.value] 65)).alloc (.cells #[.int .i64 (nth dR.jobs bi).task,.int .i64 (nth dR.jobs bi).number,.int .i64 (nth dR.jobs bi).released,.int .i64 (nth dR.jobs bi).used,.bool (nth dR.jobs bi).ran,.bool (nth dR.jobs bi).missed] 110))
      case first=>
       go_wp2_with fail
       go_meet
       exact ⟨by simp,rfl⟩
      case rest=>
       obtain ⟨rfl,rfl⟩:=hcut
       clear c5 f5 z5 cd5 fd5 zd5 y0 y1 y2 j0 j1 j2 j3 j4 j5 hjf ej hgj hjg hbA5 hb5 hlA hW5 hW4 hb34 hb4 hW2 hIA
       go_step
       refine wofDo (g10:=w.heap.size+1+1) _ (by kernel_rfl) rfl hJ0.out rfl hc hko hAo hdR hbl hnx1 hn2' hevd houd ?_
       iterate 248 (intro _)
       rintro W9 h9
       obtain rfl:=hav.out
       replace h9:=zH h9
       go_wp2_with fail
       go_roundw
       case rel=>exact ⟨n',_,hRn.out,rfl,by obtain ⟨G9,T9,A9,n9,F9,h9⟩:=h9.out;exact h9.toR,hw',hl'⟩
       case measure=>exact hlt'
  ·as_aux_lemma=>
   have bl:decide (s.now < to_)=false:=by simpa using hlt
   have hst:winOf c m d k ac from_ to_=s:=by
    unfold winOf
    rw [← hN.out,hw.out]
    cases n with
    |zero=>rfl
    |succ n=>show (if s.now < to_ then _ else _)=_;rw [if_neg hlt]
   have e1:windowD c m d k ac from_ to_=releaseOf c m to_ s.d:=by unfold windowD;rw [hst]
   have e2:windowK c m d k ac from_ to_=s.k:=by unfold windowK;rw [hst]
   have he1:=zH e1
   have he2:=zH e2
   have hev1:s.d.events.length+44≤4398046511104:=by have:=hRO.ev;dsimp only at this;have:=h0.now;dsimp only at this;omega
   have hto:0≤to_∧to_≤100000:=by omega
   have hok:=zH hRO.inn.ok
   have hWh:=zH hWm
   clear hWm hRO hst e1 e2 hw hlt h0 hR hAl hN
   go_upto_region 55 with (fail)
   refine wofR55 (g10:=w.heap.size+1+1) (g14:=w.heap.size+1+1+1) (g15:=w.heap.size+1+1+1+1) _ (by kernel_rfl) rfl rfl rfl hWh.out hc hok.out hto hev1 ?_
   rintro _ _ _ _ _ _ T2 W2 ⟨x3,x4,⟨G2,hO2,hG2⟩,hF2,hB2'⟩
   obtain ⟨c9,f9,z9⟩:=blk x3
   obtain ⟨c8,f8,z8⟩:=blk x4
   replace hO2:=zH hO2
   replace hF2:=zH hF2
   clear hWh hok
   go_wp2_with fail
   refine bodyPost_ret (v:= .tuple #[.agg #[.slice T2.a0 (releaseOf c m to_ s.d).jobs.length T2.n0,.slice T2.a1 (releaseOf c m to_ s.d).released.length T2.n1,.int .i64 (releaseOf c m to_ s.d).next,.slice T2.a2 (releaseOf c m to_ s.d).ins.length T2.n2,.slice T2.a3 (releaseOf c m to_ s.d).taken.length T2.n3,.slice T2.a4 (releaseOf c m to_ s.d).outs.length T2.n4,.slice T2.a5 (releaseOf c m to_ s.d).events.length T2.n5],.agg #[.slice A0 s.k.length n0]]) (by simp [results,Try.results35,go_sem, *]) rfl ?_
   rw [he1.out,he2.out]
   exact ⟨T2,G2,A0,n0,rfl,hO2.out,hG2,hF2.out,hB2'⟩
end Go.Proofs.Ytinlmkhlgclbfab
