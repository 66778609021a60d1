/- WinB WinD -/
import Derived.Test.YtinlmkhlgclbfabDoorAs15
import Derived.Test.YtinlmkhlgclbfabDoorAs18
namespace Go.Proofs.YtinlmkhlgclbfabDoor
open Go.RowKit
section
set_option maxRecDepth 100000
set_option maxHeartbeats 4000000
theorem spendK_len (k:List (List TWay))(a:TAct):(spendK k a).length=k.length:=by unfold spendK accessOf;split<;>simp
theorem windowSpend (k:List (List TWay))(ok:CacheOk k)(a:TAct)(ha:ActOk a)(A:Option Addr)(n:Nat)(F:Nat→Prop)(w:World)(hO:OCache F w (.slice A k.length n) k)(hF:∀b,F b→b < w.heap.size):
  Calls Tryd.prog 86 #[.agg #[.slice A k.length n],.agg #[.int .i64 a.kind,.int .i64 a.n,.int .i64 a.value]] w fun e w'=>e= .returned (.int .i64 (spendN k a))∧OCache F w' (.slice A k.length n) (spendK k a)∧Only F w w':=by
 by_cases hm:isMem a=true
 ·have hm':=hm
  simp only [isMem,Bool.or_eq_true,decide_eq_true_eq] at hm'
  have hl:=ha.line hm'
  have R1:spendN k a=accessCost k a.n:=by unfold spendN;rw [if_pos hm]
  have R2:spendK k a=accessOf k a.n (decide (a.kind=3)):=by unfold spendK;rw [if_pos hm]
  rw [R1,R2]
  have HT:=zH (fun W (h:Below w.heap.size w W)=>cacheTouch k ok a.n (decide (a.kind=3)) hl.1 hl.2 A n F W (hO.keep fun b hb=>h.block b (hF b hb)) (fun b hb=>Nat.lt_of_lt_of_le (hF b hb) h.size))
  clear R1 R2 hO hm ha
  rcases hm' with h2|h3
  ·rw [h2,show decide ((2:Int)=3)=false by decide] at HT
   rw [h2,show decide ((2:Int)=3)=false by decide]
   have b1:((2:Int)==2)=true:=by decide
   clear h2
   go_enter Tryd.func86,Tryd.ntmps86
   go_wp2_with fail
   go_at_call 93
   refine (HT.out _ byB).mono ?_
   rintro e w1 ⟨rfl,hO1,hE1⟩
   have hb:Below w.heap.size w ((w.alloc (.cells #[.slice A k.length n] 66)).alloc (.cells #[.int .i64 2,.int .i64 a.n,.int .i64 a.value] 52)):=byB
   have hE:Only F w w1:=(Only.below hb).trans hE1
   replace hO1:=zH hO1
   replace hE:=zH hE
   clear hE1
   go_wp2_with fail
   go_ret
   exact ⟨rfl,hO1.out,hE.out⟩
  ·rw [h3,show decide ((3:Int)=3)=true by decide] at HT
   rw [h3,show decide ((3:Int)=3)=true by decide]
   clear h3
   go_enter Tryd.func86,Tryd.ntmps86
   go_wp2_with fail
   go_at_call 93
   refine (HT.out _ byB).mono ?_
   rintro e w1 ⟨rfl,hO1,hE1⟩
   have hb:Below w.heap.size w ((w.alloc (.cells #[.slice A k.length n] 66)).alloc (.cells #[.int .i64 3,.int .i64 a.n,.int .i64 a.value] 52)):=byB
   have hE:Only F w w1:=(Only.below hb).trans hE1
   replace hO1:=zH hO1
   replace hE:=zH hE
   clear hE1
   go_wp2_with fail
   go_ret
   exact ⟨rfl,hO1.out,hE.out⟩
 ·have R1:spendN k a=worstA a:=by unfold spendN;rw [if_neg hm]
  have R2:spendK k a=k:=by unfold spendK;rw [if_neg hm]
  rw [R1,R2]
  have hm':a.kind≠2∧a.kind≠3:=by
   simp only [isMem,Bool.or_eq_true,decide_eq_true_eq] at hm
   omega
  have HW:=zH (fun W=>windowWorst a W)
  have b1:(a.kind==2)=false:=by simp [hm'.1]
  have b2:(a.kind==3)=false:=by simp [hm'.2]
  have hOk:=zH (fun W (h:Below w.heap.size w W)=>(hO.keep fun b hb=>h.block b (hF b hb):OCache F W (.slice A k.length n) k))
  clear R1 R2 hO hm hm' ha ok
  go_enter Tryd.func86,Tryd.ntmps86
  go_wp2_with fail
  go_at_call 72
  refine (HW.out _).mono ?_
  rintro e w1 ⟨rfl,hb1⟩
  have h1:Below w.heap.size w w1:=byB
  go_wp2_with fail
  go_ret
  exact ⟨rfl,hOk.out _ h1,Only.below h1⟩
structure Rn (gr gk:Nat) (G:Nat→Nat→Prop) (F:Nat→Prop) (B:Nat) (w:World) (c:TCfg) (S:TCfgS) (m:Int) (d:TDom) (T:TDomS) (k:List (List TWay)) (Ak:Option Addr) (nk:Nat) (l:List TAct) (Al:Option Addr) (nl:Nat) (now to_:Int):Prop where
 blk:w.heap[gr]?=some (.cells #[.pointer (some ⟨gk,0,none⟩),.slice Ak k.length nk,.slice Al l.length nl,.int .i64 now,.int .i64 to_] 138)
 kp:Kp gk G B w c S m d T
 own:OCache F w (.slice Ak k.length nk) k
 acts:Sl cAct (Low B) w Al nl l
 grk:gr≠gk
 grG:∀i b,G i b→b≠gr
 grF:∀b,F b→b≠gr∧b≠gk∧B≤b∧b < w.heap.size
 FG:∀i b,G i b→¬ F b
 lo:B≤gr
structure REff (gr gk B:Nat) (F:Nat→Prop) (G G':Nat→Nat→Prop) (w w':World):Prop where
 below:Below B w w'
 keep:∀b,b < w.heap.size→b≠gr→b≠gk→(∀i,¬ G i b)→¬ F b→w'.heap[b]?=w.heap[b]?
 grow:∀i b,G' i b→G i b∨(w.heap.size≤b∧b < w'.heap.size)
theorem REff.refl (gr gk B:Nat)(F:Nat→Prop)(G:Nat→Nat→Prop)(w:World):REff gr gk B F G G w w:=⟨Below.refl _ _,fun _ _ _ _ _ _=>rfl,fun _ _ h=> .inl h⟩
theorem REff.trans {gr gk B:Nat}{F:Nat→Prop}{G G' G'':Nat→Nat→Prop}{w w' w'':World}(h:REff gr gk B F G G' w w')(h':REff gr gk B F G' G'' w' w''):REff gr gk B F G G'' w w'':=
 ⟨h.below.trans h'.below,fun b hb h1 h2 hG hF=>(h'.keep b (Nat.lt_of_lt_of_le hb h.below.size) h1 h2 (fun i hi=>by
  rcases h.grow i b hi with h1|h1
  ·exact hG i h1
  ·omega) hF).trans (h.keep b hb h1 h2 hG hF),fun i b hi=>by
  have:=h.below.size
  have:=h'.below.size
  rcases h'.grow i b hi with h1|h1
  ·rcases h.grow i b h1 with h2|h2
   ·exact .inl h2
   ·exact .inr ⟨h2.1,by omega⟩
  ·exact .inr ⟨by omega,h1.2⟩⟩
theorem KEff.run {gr gk B:Nat}{F:Nat→Prop}{G G':Nat→Nat→Prop}{w w':World}(h:KEff gk B G G' w w'):REff gr gk B F G G' w w':=⟨h.below,fun b hb _ h2 hG _=>h.keep b hb h2 hG,h.grow⟩
section
variable {gr gk : Nat} {G : Nat → Nat → Prop} {F : Nat → Prop} {B : Nat} {w : World} {c : TCfg} {S : TCfgS} {m : Int} {d : TDom} {T : TDomS} {k : List (List TWay)} {Ak : Option Addr} {nk : Nat} {l : List TAct} {Al : Option Addr} {nl : Nat} {now to_ : Int}
theorem Rn.hB (h:Rn gr gk G F B w c S m d T k Ak nk l Al nl now to_):B≤w.heap.size:=by
 have:=h.lo
 have:=(Go.Proofs.YtinlmkhlgclbfabDoor.blk h.blk).2.2
 omega
theorem Rn.keeper (h:Rn gr gk G F B w c S m d T k Ak nk l Al nl now to_){G':Nat→Nat→Prop}{w':World}{d':TDom}{T':TDomS}(hK:Kp gk G' B w' c S m d' T')(hE:KEff gk B G G' w w'):Rn gr gk G' F B w' c S m d' T' k Ak nk l Al nl now to_:=by
 have hz:=(Go.Proofs.YtinlmkhlgclbfabDoor.blk h.blk).2.2
 have hs:=hE.below.size
 have hlo:=h.lo
 have hkF:∀b,F b→w'.heap[b]?=w.heap[b]?:=fun b hb=>hE.keep b (h.grF b hb).2.2.2 (h.grF b hb).2.1 (fun i hi=>h.FG i b hi hb)
 refine ⟨(hE.keep gr hz h.grk (fun i hi=>h.grG i gr hi rfl)).trans h.blk,hK,OSl.keep h.own hkF,h.acts.keep fun b hb=>hE.below.block b hb,h.grk,fun i b hb=>?_,fun b hb=>⟨(h.grF b hb).1,(h.grF b hb).2.1,(h.grF b hb).2.2.1,by have:=(h.grF b hb).2.2.2;omega⟩,fun i b hb hf=>?_,h.lo⟩
 ·rcases hE.grow i b hb with h1|h1
  ·exact h.grG i b h1
  ·omega
 ·rcases hE.grow i b hb with h1|h1
  ·exact h.FG i b h1 hf
  ·have:=(h.grF b hf).2.2.2;omega
theorem Rn.ext (h:Rn gr gk G F B w c S m d T k Ak nk l Al nl now to_){w':World}(hb:Below w.heap.size w w'):Rn gr gk G F B w' c S m d T k Ak nk l Al nl now to_:=
 h.keeper (h.kp.ext hb) (KEff.ext h.hB hb)
theorem REff.ext {gr gk B:Nat}{F:Nat→Prop}{G:Nat→Nat→Prop}{w w':World}(hB:B≤w.heap.size)(hb:Below w.heap.size w w'):REff gr gk B F G G w w':=(KEff.ext hB hb).run
theorem Rn.time (h:Rn gr gk G F B w c S m d T k Ak nk l Al nl now to_)(now':Int):Rn gr gk G F B (w.setCell ⟨gr,3,none⟩ (.int .i64 now')) c S m d T k Ak nk l Al nl now' to_∧REff gr gk B F G G w (w.setCell ⟨gr,3,none⟩ (.int .i64 now')):=by
 have hk:∀b,b≠gr→(w.setCell ⟨gr,3,none⟩ (.int .i64 now')).heap[b]?=w.heap[b]?:=fun b hb=>Below.heap_setCell _ _ _ _ hb
 have hlo:=h.lo
 have hzk:=(Go.Proofs.YtinlmkhlgclbfabDoor.blk h.kp.blk).2.2
 refine ⟨⟨?_,⟨(hk gk (Ne.symm h.grk)).trans h.kp.blk,h.kp.cfg.keep fun b hb=>hk b (by simp only [Low] at hb;omega),h.kp.dom.keep (fun i b hb=>hk b (h.grG i b hb)) (by simp),h.kp.apart,h.kp.lo⟩,OSl.keep h.own fun b hb=>hk b (h.grF b hb).1,h.acts.keep fun b hb=>hk b (by simp only [Low] at hb;omega),h.grk,h.grG,fun b hb=>by simpa using h.grF b hb,h.FG,h.lo⟩,⟨Below.setCell (Below.refl _ _) hlo _,fun b _ hb _ _ _=>hk b hb,fun _ _ h=> .inl h⟩⟩
 have:=heap_set_same (i:=3) (u:= .int .i64 now') h.blk
 simpa using this
end
theorem runnerIdle {gr gk:Nat}{G:Nat→Nat→Prop}{F:Nat→Prop}{B:Nat}{w:World}{c:TCfg}{S:TCfgS}{m:Int}{d:TDom}{T:TDomS}{k:List (List TWay)}{Ak:Option Addr}{nk:Nat}{l:List TAct}{Al:Option Addr}{nl:Nat}{now to_:Int}
  (h:Rn gr gk G F B w c S m d T k Ak nk l Al nl now to_) (hc:CfgOk c) (hd:DomOkW c m d):
  Calls Tryd.prog 71 #[.pointer (some ⟨gr,0,none⟩)] w fun e w'=>e= .returned (.tuple #[])∧Rn gr gk G F B w' c S m d T k Ak nk l Al nl (idleTo to_ (dueOf c m d)) to_∧REff gr gk B F G G w w':=by
 have HS:=zH (fun W (hb:Below w.heap.size w W)=>keeperSoon gk G B W c S m d T (h.kp.ext hb) hc hd)
 have HT:=zH (fun W (hb:Below w.heap.size w W) n=>(h.ext hb).time n)
 have hbk:=h.blk
 obtain ⟨cb,fb,zb⟩:=blk hbk
 have hB:=h.hB
 clear h
 by_cases h0:0≤dueOf c m d
 ·by_cases h1:dueOf c m d < to_
  ·have R:idleTo to_ (dueOf c m d)=dueOf c m d:=by unfold idleTo;rw [if_pos ⟨h0,h1⟩]
   rw [R]
   have b0:decide (dueOf c m d≥0)=true:=by simpa using h0
   have b1:decide (dueOf c m d < to_)=true:=by simpa using h1
   clear R
   generalize dueOf c m d=D at*
   go_enter Tryd.func71,Tryd.ntmps71
   go_wp2_with fail
   go_at_call 85
   refine (HS.out _ byB).mono ?_
   rintro e w1 ⟨rfl,hb1⟩
   have h1':Below w.heap.size w w1:=byB
   obtain ⟨cb1,fb1,zb1⟩:=blk ((h1'.block _ zb).trans hbk)
   have HF:=zH (HT.out w1 h1' D)
   go_wp2_with fail
   refine bodyPost_ret (v:= .tuple #[]) (by simp [results,Tryd.results71,go_sem, *]) rfl ?_
   exact ⟨rfl,HF.out.1,(REff.ext hB h1').trans HF.out.2⟩
  ·have R:idleTo to_ (dueOf c m d)=to_:=by unfold idleTo;rw [if_neg (by omega)]
   rw [R]
   have b0:decide (dueOf c m d≥0)=true:=by simpa using h0
   have b1:decide (dueOf c m d < to_)=false:=by simpa using h1
   clear R
   generalize dueOf c m d=D at*
   go_enter Tryd.func71,Tryd.ntmps71
   go_wp2_with fail
   go_at_call 85
   refine (HS.out _ byB).mono ?_
   rintro e w1 ⟨rfl,hb1⟩
   have h1':Below w.heap.size w w1:=byB
   obtain ⟨cb1,fb1,zb1⟩:=blk ((h1'.block _ zb).trans hbk)
   have HF:=zH (HT.out w1 h1' to_)
   go_wp2_with fail
   refine bodyPost_end (v:= .tuple #[]) (by simp [results,Tryd.results71,go_sem, *]) rfl ?_
   exact ⟨rfl,HF.out.1,(REff.ext hB h1').trans HF.out.2⟩
 ·have R:idleTo to_ (dueOf c m d)=to_:=by unfold idleTo;rw [if_neg (by omega)]
  rw [R]
  have b0:decide (dueOf c m d≥0)=false:=by simpa using h0
  clear R
  generalize dueOf c m d=D at*
  go_enter Tryd.func71,Tryd.ntmps71
  go_wp2_with fail
  go_at_call 85
  refine (HS.out _ byB).mono ?_
  rintro e w1 ⟨rfl,hb1⟩
  have h1':Below w.heap.size w w1:=byB
  obtain ⟨cb1,fb1,zb1⟩:=blk ((h1'.block _ zb).trans hbk)
  have HF:=zH (HT.out w1 h1' to_)
  go_wp2_with fail
  refine bodyPost_end (v:= .tuple #[]) (by simp [results,Tryd.results71,go_sem, *]) rfl ?_
  exact ⟨rfl,HF.out.1,(REff.ext hB h1').trans HF.out.2⟩
theorem runnerRefused {gr gk:Nat}{G:Nat→Nat→Prop}{F:Nat→Prop}{B:Nat}{w:World}{c:TCfg}{S:TCfgS}{m:Int}{d:TDom}{T:TDomS}{k:List (List TWay)}{Ak:Option Addr}{nk:Nat}{l:List TAct}{Al:Option Addr}{nl:Nat}{now to_:Int}
  (h:Rn gr gk G F B w c S m d T k Ak nk l Al nl now to_) (hc:CfgOk c) (a:TAct) (ha:ActOk a):
  Calls Tryd.prog 87 #[.pointer (some ⟨gr,0,none⟩),.agg #[.int .i64 a.kind,.int .i64 a.n,.int .i64 a.value]] w fun e w'=>e= .returned (.bool (refusedA c m a))∧Below w.heap.size w w':=by
 have hbk:=h.blk
 have hkk:=h.kp.blk
 have hs:=h.kp.cfg
 have hB:=h.hB
 obtain ⟨kd,nm,v⟩:=a
 have hnm:=ha.name
 dsimp only at hnm⊢
 have n4:=hc.nchans
 have o4:=hc.nowners
 clear ha h
 by_cases h457:kd=4∨kd=5∨kd=7
 ·have h0:=hnm h457
  obtain ⟨i,rfl⟩:=Int.eq_ofNat_of_zero_le h0
  have i0:(0:Int)≤i:=by omega
  rcases h457 with rfl|rfl|rfl
  ·skip
   have E4:refusedA c m ⟨4,i,v⟩=(decide ((c.chans.length:Int)≤i)||decide ((nth c.chans i).src≠m)):=by unfold refusedA;simp
   rw [E4]
   clear E4 hnm h0
   by_cases hlen:i < c.chans.length
   ·have b1:decide (i≥c.chans.length)=false:=by simp;omega
    have b1':decide ((i:Int)≥c.chans.length)=false:=by simp;omega
    have b1'':decide ((c.chans.length:Int)≤i)=false:=by simp;omega
    have i1:(i:Int) < c.chans.length:=by omega
    obtain ⟨b,o,e,hI,x0,x1,x2⟩:=hs.s2.at_chan hlen
    rw [e] at hkk
    clear e
    have hbl:b < w.heap.size:=Nat.lt_of_lt_of_le hI hB
    obtain ⟨cb,fb,zb⟩:=blk hbk
    obtain ⟨ck,fk,zk⟩:=blk hkk
    rw [b1'',Bool.false_or]
    clear b1''
    by_cases hx:(nth c.chans i).src=m
    ·have b2:((nth c.chans i).src !=m)=false:=by simp [hx]
     rw [show decide ((nth c.chans i).src≠m)=false by simp [hx]]
     clear hx
     go_enter Tryd.func87,Tryd.ntmps87
     go_wp2_with fail
     go_quiet (fail)
     go_wp2_with fail
     go_ret
     exact ⟨rfl,byB⟩
    ·have b2:((nth c.chans i).src !=m)=true:=by simp [hx]
     rw [show decide ((nth c.chans i).src≠m)=true by simp [hx]]
     clear hx
     go_enter Tryd.func87,Tryd.ntmps87
     go_wp2_with fail
     go_quiet (fail)
     go_wp2_with fail
     go_ret
     exact ⟨rfl,byB⟩
   ·have b1:decide (i≥c.chans.length)=true:=by simp;omega
    have b1':decide ((i:Int)≥c.chans.length)=true:=by simp;omega
    rw [show decide ((c.chans.length:Int)≤i)=true by simp;omega,Bool.true_or]
    obtain ⟨cb,fb,zb⟩:=blk hbk
    obtain ⟨ck,fk,zk⟩:=blk hkk
    go_enter Tryd.func87,Tryd.ntmps87
    go_wp2_with fail
    go_quiet (fail)
    go_wp2_with fail
    go_ret
    exact ⟨rfl,byB⟩
  ·skip
   have E4:refusedA c m ⟨5,i,v⟩=(decide ((c.chans.length:Int)≤i)||decide ((nth c.chans i).dst≠m)):=by unfold refusedA;simp
   rw [E4]
   clear E4 hnm h0
   by_cases hlen:i < c.chans.length
   ·have b1:decide (i≥c.chans.length)=false:=by simp;omega
    have b1':decide ((i:Int)≥c.chans.length)=false:=by simp;omega
    have b1'':decide ((c.chans.length:Int)≤i)=false:=by simp;omega
    have i1:(i:Int) < c.chans.length:=by omega
    obtain ⟨b,o,e,hI,x0,x1,x2⟩:=hs.s2.at_chan hlen
    rw [e] at hkk
    clear e
    have hbl:b < w.heap.size:=Nat.lt_of_lt_of_le hI hB
    obtain ⟨cb,fb,zb⟩:=blk hbk
    obtain ⟨ck,fk,zk⟩:=blk hkk
    rw [b1'',Bool.false_or]
    clear b1''
    by_cases hx:(nth c.chans i).dst=m
    ·have b2:((nth c.chans i).dst !=m)=false:=by simp [hx]
     rw [show decide ((nth c.chans i).dst≠m)=false by simp [hx]]
     clear hx
     go_enter Tryd.func87,Tryd.ntmps87
     go_wp2_with fail
     go_quiet (fail)
     go_wp2_with fail
     go_ret
     exact ⟨rfl,byB⟩
    ·have b2:((nth c.chans i).dst !=m)=true:=by simp [hx]
     rw [show decide ((nth c.chans i).dst≠m)=true by simp [hx]]
     clear hx
     go_enter Tryd.func87,Tryd.ntmps87
     go_wp2_with fail
     go_quiet (fail)
     go_wp2_with fail
     go_ret
     exact ⟨rfl,byB⟩
   ·have b1:decide (i≥c.chans.length)=true:=by simp;omega
    have b1':decide ((i:Int)≥c.chans.length)=true:=by simp;omega
    rw [show decide ((c.chans.length:Int)≤i)=true by simp;omega,Bool.true_or]
    obtain ⟨cb,fb,zb⟩:=blk hbk
    obtain ⟨ck,fk,zk⟩:=blk hkk
    go_enter Tryd.func87,Tryd.ntmps87
    go_wp2_with fail
    go_quiet (fail)
    go_wp2_with fail
    go_ret
    exact ⟨rfl,byB⟩
  ·skip
   have E4:refusedA c m ⟨7,i,v⟩=(decide ((c.owners.length:Int)≤i)||decide (nth c.owners i≠m)):=by unfold refusedA;simp
   rw [E4]
   clear E4 hnm h0
   by_cases hlen:i < c.owners.length
   ·have b1:decide (i≥c.owners.length)=false:=by simp;omega
    have b1':decide ((i:Int)≥c.owners.length)=false:=by simp;omega
    have b1'':decide ((c.owners.length:Int)≤i)=false:=by simp;omega
    have i1:(i:Int) < c.owners.length:=by omega
    obtain ⟨b,o,e,hI,x0⟩:=hs.s1.at_int hlen
    rw [e] at hkk
    clear e
    have hbl:b < w.heap.size:=Nat.lt_of_lt_of_le hI hB
    obtain ⟨cb,fb,zb⟩:=blk hbk
    obtain ⟨ck,fk,zk⟩:=blk hkk
    rw [b1'',Bool.false_or]
    clear b1''
    by_cases hx:nth c.owners i=m
    ·have b2:(nth c.owners i !=m)=false:=by simp [hx]
     rw [show decide (nth c.owners i≠m)=false by simp [hx]]
     clear hx
     go_enter Tryd.func87,Tryd.ntmps87
     go_wp2_with fail
     go_quiet (fail)
     go_wp2_with fail
     go_ret
     exact ⟨rfl,byB⟩
    ·have b2:(nth c.owners i !=m)=true:=by simp [hx]
     rw [show decide (nth c.owners i≠m)=true by simp [hx]]
     clear hx
     go_enter Tryd.func87,Tryd.ntmps87
     go_wp2_with fail
     go_quiet (fail)
     go_wp2_with fail
     go_ret
     exact ⟨rfl,byB⟩
   ·have b1:decide (i≥c.owners.length)=true:=by simp;omega
    have b1':decide ((i:Int)≥c.owners.length)=true:=by simp;omega
    rw [show decide ((c.owners.length:Int)≤i)=true by simp;omega,Bool.true_or]
    obtain ⟨cb,fb,zb⟩:=blk hbk
    obtain ⟨ck,fk,zk⟩:=blk hkk
    go_enter Tryd.func87,Tryd.ntmps87
    go_wp2_with fail
    go_quiet (fail)
    go_wp2_with fail
    go_ret
    exact ⟨rfl,byB⟩
 ·have R:refusedA c m ⟨kd,nm,v⟩=false:=by unfold refusedA;dsimp only;rw [if_neg (by omega),if_neg (by omega),if_neg (by omega)]
  rw [R]
  have b4:(kd==4)=false:=by simp;omega
  have b5:(kd==5)=false:=by simp;omega
  have b7:(kd==7)=false:=by simp;omega
  obtain ⟨cb,fb,zb⟩:=blk hbk
  obtain ⟨ck,fk,zk⟩:=blk hkk
  clear R h457 hnm
  go_enter Tryd.func87,Tryd.ntmps87
  go_wp2_with fail
  go_ret
  exact ⟨rfl,byB⟩
end
end Go.Proofs.YtinlmkhlgclbfabDoor
