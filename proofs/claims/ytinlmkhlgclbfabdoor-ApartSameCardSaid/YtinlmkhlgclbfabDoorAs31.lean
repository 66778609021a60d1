/- MachQ SlotA -/
import Derived.Test.YtinlmkhlgclbfabDoorAs30
namespace Go.Proofs.YtinlmkhlgclbfabDoor
open Go.RowKit
section
theorem nth_repl {T:Type}[Inhabited T]{n i:Nat}{x:T}(h:i < n):nth (List.replicate n x) i=x:=by rw [nth_eq (by simpa using h)];simp
theorem closeStep_other {c:TCfg}{f:Int}{i:Nat}{ds:List TDom}(h:(nth c.chans i).src≠f):closeStep c f i ds=ds:=by unfold closeStep;rw [if_neg h]
theorem closeStep_at {c:TCfg}(ok:CfgOk c){f:Int}{i k:Nat}{ds:List TDom}(hi:i < c.chans.length)(hl:(ds.length:Int)=c.doms)(hk:k < ds.length)(h:(nth c.chans i).src=f):
  nth (closeStep c f i ds) k=if k=(nth c.chans i).dst.toNat then {nth ds k with ins:=(nth ds k).ins.set i (comeR (nth (nth ds k).ins i) (nth c.chans i).size (nth (nth ds f.toNat).outs i))} else if k=f.toNat then {nth ds k with outs:=(nth ds k).outs.set i []} else nth ds k:=by
 have hc:=ok.chan i hi
 unfold closeStep
 rw [if_pos h]
 unfold emptyOut moveTo
 rw [h]
 have e1:(nth c.chans i).dst.toNat≠f.toNat:=by omega
 rw [nth_set (by simpa using hk)]
 by_cases ek:f.toNat=k
 ·subst ek
  rw [if_pos rfl,if_neg (Ne.symm e1),if_pos rfl,nth_set_ne e1]
 ·rw [if_neg ek,nth_set hk]
  by_cases ed:(nth c.chans i).dst.toNat=k
  ·subst ed;rw [if_pos rfl,if_pos rfl]
  ·rw [if_neg ed,if_neg (Ne.symm ed),if_neg (Ne.symm ek)]
theorem comeR_right {r:TRing}{size:Int}{l:List Int}(h:checkRing r.vals r.lost size=0)(hl:areValues l=true):checkRing (comeR r size l).vals (comeR r size l).lost size=0:=by
 rw [checkRing_zero] at h⊢
 obtain ⟨h1,h2,h3,h4⟩:=h
 obtain ⟨k1,k2,k3⟩:=comeR_ok (l:=l) h1.1 ⟨h2,h4⟩
 refine ⟨h1,k1,?_,k2,k3⟩
 rw [areValues_true] at h3 hl⊢
 intro j hj
 show 0≤nth (comeVals r.vals l size.toNat) j∧nth (comeVals r.vals l size.toNat) j≤255
 replace hj:j < (comeVals r.vals l size.toNat).length:=hj
 unfold comeVals at hj⊢
 by_cases e:j < r.vals.length
 ·rw [nth_append_left e];exact h3 j e
 ·rw [List.length_append,List.length_take] at hj
  have hx:j - r.vals.length < l.length:=by omega
  have:nth (r.vals++l.take (comeN r.vals l size.toNat)) j=nth l (j - r.vals.length):=by
   unfold nth
   rw [List.getD_eq_getElem?_getD,List.getElem?_append_right (by omega),List.getElem?_take,if_pos (by omega),List.getD_eq_getElem?_getD]
  rw [this];exact hl _ hx
structure CloseIn (c:TCfg) (f:Int) (i:Nat) (ds0 ds:List TDom):Prop where
 len:ds.length=ds0.length
 ok:∀k,k < ds.length→DomOkW c (k:Int) (nth ds k)
 ev:∀k,k < ds.length→(nth ds k).events=(nth ds0 k).events
 vals:∀k j,k < ds.length→j < c.chans.length→areValues (nth (nth ds k).outs j)=true
 none:∀k j,k < ds.length→j < c.chans.length→(j < i∨(nth c.chans j).src≠f∨(k:Int)≠f)→nth (nth ds k).outs j=[]
theorem CloseIn.step {c:TCfg}(ok:CfgOk c){f:Int}{i:Nat}{ds0 ds:List TDom}(hl:(ds0.length:Int)=c.doms)(hf:0≤f∧f < c.doms)(hi:i < c.chans.length)(h:CloseIn c f i ds0 ds):CloseIn c f (i+1) ds0 (closeStep c f i ds):=by
 by_cases hs:(nth c.chans i).src=f
 ·have hlen:=h.len
  have hl':(ds.length:Int)=c.doms:=by omega
  have hc:=ok.chan i hi
  have at_:=fun k hk=>closeStep_at (k:=k) ok hi hl' hk hs
  have hln:(closeStep c f i ds).length=ds.length:=closeStep_len c f i ds
  have hfl:f.toNat < ds.length:=by omega
  refine ⟨hln.trans h.len,fun k hk=>?_,fun k hk=>?_,fun k j hk hj=>?_,fun k j hk hj ho=>?_⟩
  ·rw [hln] at hk
   have hd:=h.ok k hk
   rw [at_ k hk]
   split
   ·refine ⟨hd.isD,hd.lrel,by simpa using hd.lin,hd.lout,hd.ltak,hd.rel,hd.next,hd.tak,hd.njobs,hd.job,fun j hj=>?_⟩
    simp only [List.length_set] at hj⊢
    rw [nth_set hj]
    split
    ·rename_i e;subst e
     exact comeR_right (hd.ring _ hj) (h.vals _ _ hfl hi)
    ·exact hd.ring j hj
   ·split
    ·exact ⟨hd.isD,hd.lrel,hd.lin,by simpa using hd.lout,hd.ltak,hd.rel,hd.next,hd.tak,hd.njobs,hd.job,hd.ring⟩
    ·exact hd
  ·rw [hln] at hk
   rw [at_ k hk]
   split
   ·exact h.ev k hk
   ·split<;>exact h.ev k hk
  ·rw [hln] at hk
   rw [at_ k hk]
   split
   ·exact h.vals k j hk hj
   ·split
    ·dsimp only
     rw [nth_set (by rw [(h.ok k hk).lout];exact hj)]
     split
     ·rfl
     ·exact h.vals k j hk hj
    ·exact h.vals k j hk hj
  ·rw [hln] at hk
   rw [at_ k hk]
   split
   ·rename_i e
    exact h.none k j hk hj (.inr (.inr (by omega)))
   ·split
    ·rename_i e
     dsimp only
     rw [nth_set (by rw [(h.ok k hk).lout];exact hj)]
     split
     ·rfl
     ·rename_i ne
      refine h.none k j hk hj ?_
      rcases ho with ho|ho|ho
      ·exact .inl (by omega)
      ·exact .inr (.inl ho)
      ·exact .inr (.inr ho)
    ·rename_i e
     exact h.none k j hk hj (.inr (.inr (by omega)))
 ·rw [closeStep_other hs]
  refine ⟨h.len,h.ok,h.ev,h.vals,fun k j hk hj ho=>h.none k j hk hj ?_⟩
  rcases ho with ho|ho|ho
  ·by_cases e:j=i
   ·subst e;exact .inr (.inl hs)
   ·exact .inl (by omega)
  ·exact .inr (.inl ho)
  ·exact .inr (.inr ho)
theorem CloseIn.all {c:TCfg}(ok:CfgOk c){f:Int}{ds0:List TDom}(hl:(ds0.length:Int)=c.doms)(hf:0≤f∧f < c.doms):∀n i ds,i+n≤c.chans.length→CloseIn c f i ds0 ds→CloseIn c f (i+n) ds0 (upTo (closeStep c f) n i ds):=by
 intro n
 induction n with
 |zero=>intro i ds _ h;exact h
 |succ n ih=>
  intro i ds hi h
  have:=ih (i+1) _ (by omega) (h.step ok hl hf (by omega))
  rw [show i+(n+1)=i+1+n by omega]
  exact this
structure MachOk (c:TCfg) (j:Nat) (m:Mach):Prop where
 len:(m.ds.length:Int)=c.doms
 llen:m.last.length=m.ds.length
 ok:∀k,k < m.ds.length→DomOkW c (k:Int) (nth m.ds k)
 ev:∀k,k < m.ds.length→(nth m.ds k).events.length≤45000*j
 out:∀k i,k < m.ds.length→i < c.chans.length→nth (nth m.ds k).outs i=[]
 most:0≤m.most∧m.most≤c.pad
theorem fresh_okW {c:TCfg}(hc:CfgOk c){k:Int}(hk:0≤k∧k < c.doms):DomOkW c k (freshOf c):=by
 refine ⟨hk,by simp [freshOf],by simp [freshOf],by simp [freshOf],by simp [freshOf],fun i hi=>?_,by simp [freshOf],fun i hi=>?_,by simp [freshOf],fun i hi=>by simp [freshOf] at hi,fun i hi=>?_⟩
 ·simp only [freshOf,List.length_replicate] at hi⊢
  rw [nth_repl hi];omega
 ·simp only [freshOf,List.length_replicate] at hi⊢
  rw [nth_repl hi];omega
 ·simp only [freshOf,List.length_replicate] at hi⊢
  rw [nth_repl hi,checkRing_zero]
  have:=(hc.chan i hi).2.2.2
  exact ⟨this,by show (0:Int)≤_;omega,rfl,by show (0:Int)≤0∧(0:Int)≤100000;omega⟩
theorem mach0_ok {c:TCfg}(hc:CfgOk c):MachOk c 0 (mach0 c):=by
 have hd:=hc.doms
 have hp:=hc.pad
 have hs:=hc.sets
 have hw:=hc.ways
 have h9:0≤5*c.sets*c.ways:=Int.mul_nonneg (by omega) (by omega)
 refine ⟨by simp [mach0];omega,by simp [mach0],fun k hk=>?_,fun k hk=>?_,fun k i hk hi=>?_,by show 0≤(0:Int)∧(0:Int)≤c.pad;omega⟩
 ·simp only [mach0,List.length_replicate] at hk⊢
  rw [nth_repl hk];exact fresh_okW hc (by omega)
 ·simp only [mach0,List.length_replicate] at hk⊢
  rw [nth_repl hk];simp [freshOf]
 ·simp only [mach0,List.length_replicate] at hk⊢
  rw [nth_repl hk];simp only [freshOf];rw [nth_repl hi]
theorem cache0_ok {c:TCfg}(hc:CfgOk c):CacheOk (cache0 c):=by have:=hc.sets;have:=hc.ways;exact empty_ok (by omega) (by omega) (by omega) (by omega)
theorem cache0_shape {c:TCfg}(hc:CfgOk c):((cache0 c).length:Int)=c.sets∧((nth (cache0 c) 0).length:Int)=c.ways:=by
 have:=hc.sets;have:=hc.ways
 unfold cache0 emptyCache
 rw [nth_repl (by omega)]
 simp;omega
structure SlotOk (c:TCfg) (sc:TScr) (s start:Int) (m:Mach):Prop where
 dom:0≤slotDom c s∧slotDom c s < c.doms
 lt:(slotDom c s).toNat < m.ds.length
 cast:(((slotDom c s).toNat:Nat):Int)=slotDom c s
 opened:DomOkW c (slotDom c s) (slotIn c sc s start m)
 acts:(slotActs c sc s).length≤60∧∀k,k < (slotActs c sc s).length→ActOk (nth (slotActs c sc s) k)
 time:0≤start∧start≤slotTo c s start∧slotTo c s start≤start+1000∧slotTo c s start≤100000
 win:WinEnd c (slotDom c s) (slotIn c sc s start m) (cache0 c) (slotActs c sc s) start (slotTo c s start)
 told:DomOkW c (slotDom c s) (slotOut c sc s start m)
theorem slot_ok {c:TCfg}{sc:TScr}{s start:Int}{m:Mach}{j:Nat}(h:ScrOk c sc)(hm:MachOk c j m)(hs:0≤s∧s < c.slots.length)(ht:0≤start∧start≤60000):SlotOk c sc s start m:=by
 have hc:=h.cfg
 have h1:=hc.slot s.toNat (by omega)
 have hp:=hc.pad
 have hs9:=hc.sets
 have hw9:=hc.ways
 have h9:0≤5*c.sets*c.ways:=Int.mul_nonneg (by omega) (by omega)
 have hd:0≤slotDom c s∧slotDom c s < c.doms:=⟨h1.1,h1.2.1⟩
 have hlen:=hm.len
 have hlt:(slotDom c s).toNat < m.ds.length:=by omega
 have hca:(((slotDom c s).toNat:Nat):Int)=slotDom c s:=by omega
 have hop:DomOkW c (slotDom c s) (slotIn c sc s start m):=by
  have:=hm.ok _ hlt
  rw [hca] at this
  exact openOf_okW this
 have hac:=h.acts (slotDom c s).toNat (by have:=h.len;omega)
 have htm:0≤start∧start≤slotTo c s start∧slotTo c s start≤start+1000∧slotTo c s start≤100000:=by unfold slotTo;omega
 have hou:OutOk c (slotDom c s) 0 (slotIn c sc s start m):=by
  have e:∀i,i < (slotIn c sc s start m).outs.length→nth (slotIn c sc s start m).outs i=[]:=fun i hi=>by
   rw [hop.lout] at hi
   unfold slotIn
   rw [openOf_outs]
   exact hm.out _ i hlt hi
  exact ⟨fun i hi _=>e i hi,fun i hi=>by rw [e i hi];rfl,fun i hi=>by rw [e i hi];simp⟩
 have hwin:=window_end hc hac.1 hac.2 ⟨htm.1,htm.2.1,htm.2.2.2⟩ hop (cache0_ok hc) hou
 exact ⟨hd,hlt,hca,hop,hac,htm,hwin,hwin.ok.tell _ _ _ _⟩
theorem slotOut_events {c:TCfg}{sc:TScr}{s start:Int}{m:Mach}{j:Nat}(hS:SlotOk c sc s start m)(hm:MachOk c j m):(slotIn c sc s start m).events.length≤45000*j+1∧(slotWinD c sc s start m).events.length≤45000*j+44050∧(slotOut c sc s start m).events.length≤45000*j+44051:=by
 have h1:=hS.win.events
 have h2:=hS.time
 have h3:=hm.ev _ hS.lt
 have h4:(slotIn c sc s start m).events.length=(nth m.ds (slotDom c s).toNat).events.length+1:=by unfold slotIn;rw [openOf_events];simp
 have h5:(slotOut c sc s start m).events.length=(slotWinD c sc s start m).events.length+1:=by unfold slotOut;simp [tellOf]
 have h6:((slotWinD c sc s start m).events.length:Int)≤(slotIn c sc s start m).events.length+44*(slotTo c s start - start)+40:=h1
 omega
theorem flush_pad {c:TCfg}{k:List (List TWay)}(hc:CfgOk c)(hk:CacheOk k)(hs:SameShape (cache0 c) k):0≤flushOf k∧flushOf k≤c.pad:=by
 have h1:=flush_bd hk
 have h2:=cache0_shape hc
 have h3:=hc.pad
 rw [show ((k.length:Nat):Int)=c.sets by rw [hs.1];exact h2.1,show (((nth k 0).length:Nat):Int)=c.ways by rw [hs.2];exact h2.2] at h1
 omega
theorem slot_in {c:TCfg}{sc:TScr}{s start:Int}{m:Mach}{j:Nat}(hS:SlotOk c sc s start m)(hm:MachOk c j m):CloseIn c (slotDom c s) 0 (m.ds.set (slotDom c s).toNat (slotOut c sc s start m)) (m.ds.set (slotDom c s).toNat (slotOut c sc s start m)):=by
 have hw:OutOk c (slotDom c s) (slotTo c s start - start).toNat (slotOut c sc s start m):=hS.win.outs.same rfl
 have hlo:=hS.told.lout
 have hcast:=hS.cast
 refine ⟨rfl,fun k hk=>?_,fun _ _=>rfl,fun k i hk hi=>?_,fun k i hk hi ho=>?_⟩
 ·simp only [List.length_set] at hk
  rw [nth_set hk]
  split
  ·rename_i e;rw [← e,hcast];exact hS.told
  ·exact hm.ok k hk
 ·simp only [List.length_set] at hk
  rw [nth_set hk]
  split
  ·exact hw.vals i (by rw [hlo];exact hi)
  ·rw [hm.out k i hk hi];rfl
 ·simp only [List.length_set] at hk
  rw [nth_set hk]
  split
  ·rename_i e
   refine hw.mine i (by rw [hlo];exact hi) ?_
   rcases ho with ho|ho|ho
   ·omega
   ·exact ho
   ·omega
  ·exact hm.out k i hk hi
theorem slot_lv {c:TCfg}{sc:TScr}{s start:Int}{m:Mach}{j:Nat}(hS:SlotOk c sc s start m)(hm:MachOk c j m):LvOk c (m.ds.set (slotDom c s).toNat (slotOut c sc s start m)):=by
 have hI:=slot_in hS hm
 have hw:OutOk c (slotDom c s) (slotTo c s start - start).toNat (slotOut c sc s start m):=hS.win.outs.same rfl
 have hlo:=hS.told.lout
 have htm:=hS.time
 refine ⟨by rw [List.length_set];exact hm.len,fun k hk=>(hI.ok k hk).lin,fun k hk=>(hI.ok k hk).lout,fun k i hk hi=>?_,fun k i hk hi=>?_⟩
 ·have:=(checkRing_zero.1 ((hI.ok k hk).ring i (by rw [(hI.ok k hk).lin];exact hi)))
  exact ⟨this.2.1,this.2.2.2⟩
 ·simp only [List.length_set] at hk
  rw [nth_set hk]
  split
  ·have:=hw.most i (by rw [hlo];exact hi)
   omega
  ·rw [hm.out k i hk hi];simp
theorem slot_done {c:TCfg}{sc:TScr}{s start:Int}{m:Mach}{j:Nat}(h:ScrOk c sc)(hS:SlotOk c sc s start m)(hm:MachOk c j m):MachOk c (j+1) (slotAll c sc s start m):=by
 have hI:=CloseIn.all h.cfg (ds0:=m.ds.set (slotDom c s).toNat (slotOut c sc s start m)) (by rw [List.length_set];exact hm.len) hS.dom c.chans.length 0 _ (by omega) (slot_in hS hm)
 rw [Nat.zero_add] at hI
 have he:=slotOut_events hS hm
 have hlen:(slotAll c sc s start m).ds.length=m.ds.length:=by
  show (closeOf c s _).length=_
  unfold closeOf;rw [closeUp_len,List.length_set]
 refine ⟨by rw [hlen];exact hm.len,?_,fun k hk=>hI.ok k hk,fun k hk=>?_,fun k i hk hi=>hI.none k i hk hi (.inl hi),?_⟩
 ·rw [hlen];show (m.last.set _ _).length=_;rw [List.length_set];exact hm.llen
 ·have e:=hI.ev k hk
  rw [hlen] at hk
  have e':(nth (slotAll c sc s start m).ds k).events=(nth (m.ds.set (slotDom c s).toNat (slotOut c sc s start m)) k).events:=e
  rw [e',nth_set hk]
  split
  ·omega
  ·have:=hm.ev k hk;omega
 ·have h1:=flush_pad h.cfg hS.win.cache hS.win.shape
  have h2:=hm.most
  show 0≤max m.most (flushOf (slotWinK c sc s start m))∧max m.most (flushOf (slotWinK c sc s start m))≤c.pad
  have h3:0≤flushOf (slotWinK c sc s start m)∧flushOf (slotWinK c sc s start m)≤c.pad:=h1
  omega
theorem slotNo_lt {c:TCfg}(hc:CfgOk c)(j:Nat):slotNo c j < c.slots.length:=Nat.mod_lt _ (by have:=hc.nslots;omega)
theorem slotAt_bd {c:TCfg}{sc:TScr}(h:ScrOk c sc){j:Nat}(hj:j < slotsIn c sc):0≤slotAt c j∧slotAt c j≤54000:=by
 have hn:=h.cfg.nslots
 have h1:j / c.slots.length < sc.rounds.toNat:=Nat.div_lt_of_lt_mul (by unfold slotsIn at hj;rw [Nat.mul_comm];exact hj)
 have h2:=slotNo_lt h.cfg j
 have hr:=h.rounds
 have hq:(0:Int)≤((j / c.slots.length:Nat):Int)∧((j / c.slots.length:Nat):Int)≤8:=by
  generalize j / c.slots.length=q at*
  omega
 have:=startOf_rng h.cfg (r:=((j / c.slots.length:Nat):Int)) (s:=(slotNo c j:Nat)) hq (by omega)
 unfold slotAt startOf
 omega
theorem machUp_ok {c:TCfg}{sc:TScr}(h:ScrOk c sc):∀n,n≤slotsIn c sc→MachOk c n (machUp c sc n):=by
 intro n
 induction n with
 |zero=>intro _;exact mach0_ok h.cfg
 |succ n ih=>
  intro hn
  have hm:=ih (by omega)
  rw [machUp_succ]
  have h1:=slotNo_lt h.cfg n
  have h2:=slotAt_bd h (j:=n) (by omega)
  exact slot_done h (slot_ok h hm ⟨by omega,by omega⟩ ⟨by omega,by omega⟩) hm
theorem slotsIn_le {c:TCfg}{sc:TScr}(h:ScrOk c sc):slotsIn c sc≤48:=by
 have h1:=h.rounds
 have h2:=h.cfg.nslots
 unfold slotsIn
 exact Nat.mul_le_mul (show sc.rounds.toNat≤8 by omega) h2.2
end
section
set_option maxRecDepth 1000000
set_option maxHeartbeats 4000000
def slotRn (k:Nat):Code→Option Code
 | .seq a b=>match slotRn k a with
  |some c=>some c
  |none=>slotRn k b
 | .cond _ a b=>match slotRn k a with
  |some c=>some c
  |none=>slotRn k b
 | .block _ c=>slotRn k c
 | .loop c=>slotRn k c
 | .region i o d=>if i==k then some (.region i o d) else none
 |_=>none
noncomputable def slotR (k:Nat):Code:=(Tryd.f35.body.bind (slotRn k)).getD .skip
theorem slotR7 (C:Code)(hC:C=slotR 7){B:Nat}{c:TCfg}{S:TCfgS}{sc:TScr}{Z:TScrS}{gm:Nat}{ds:List TDom}{last:List Int}{k:List (List TWay)}{F FL FK:Nat→Prop}{A:Option Addr}{n:Nat}{Al:Option Addr}{nl:Nat}{Ak:Option Addr}{nk:Nat}{Wa:World}{s:Int}(ok:CfgOk c)(hM:MachW B c S sc Z gm ds last k F FL FK A n Al nl Ak nk Wa)(hds:LvOk c ds)(hs:0≤s∧s < c.slots.length)
  {u2 u3 u4 u5 u6 u7 u8 u9 u10 u11 u12 u13 u14 u15 u16 u17 u18 u19 u20 u21 u22 u23 u24 u25 u26 u27 u28 u29 u30 u31 u32 u33 u34 u35 u36 u37 u38 u39 u40 u41 u42 u43 u44 u45 u46 u47 u48 u49 u50 u51 u52 u53 u54 u55 u56 u57 u58 u59 u60 u61 u62 u63 u64 u65 u66 u67 u68 u69 u70 u71 u72 u73 u74 u75 u76 u77 u78 u79 u80 u81 u82 u83 u84 u85 u86 u87 u88 u89 u90 u91 u92 u93 u94 u95 u96 u97 u98 u99 u100 u101 u102 u103 u104 u105 u106 u107 u108 u109 u110 u111 u112 u113 u114 u115 u116 u117 u118:Value} {Q:Exit→Act→World→Prop}
  (hQ:∀(v109 v110 v111 v112 v113 v114 v115 v116 v117 v118:Value) (F':Nat→Prop) (W':World),MachW B c S sc Z gm (closeOf c s ds) last k F' FL FK A n Al nl Ak nk W'→MEff F Wa W'→(∀b,F' b→F b∨Wa.heap.size≤b)→Q .normal ⟨[.pointer (some ⟨gm,0,none⟩),.int .i64 s,u2,u3,u4,u5,u6,u7,u8,u9,u10,u11,u12,u13,u14,u15,u16,u17,u18,u19,u20,u21,u22,u23,u24,u25,u26,u27,u28,u29,u30,u31,u32,u33,u34,u35,u36,u37,u38,u39,u40,u41,u42,u43,u44,u45,u46,u47,u48,u49,u50,u51,u52,u53,u54,u55,u56,u57,u58,u59,u60,u61,u62,u63,u64,u65,u66,u67,u68,u69,u70,u71,u72,u73,u74,u75,u76,u77,u78,u79,u80,u81,u82,u83,u84,u85,u86,u87,u88,u89,u90,u91,u92,u93,u94,u95,u96,u97,u98,u99,u100,u101,u102,u103,u104,u105,u106,u107,u108,v109,v110,v111,v112,v113,v114,v115,v116,v117,v118].toArray,[]⟩ W'):
  Code.wp Tryd.prog C Q ⟨[.pointer (some ⟨gm,0,none⟩),.int .i64 s,u2,u3,u4,u5,u6,u7,u8,u9,u10,u11,u12,u13,u14,u15,u16,u17,u18,u19,u20,u21,u22,u23,u24,u25,u26,u27,u28,u29,u30,u31,u32,u33,u34,u35,u36,u37,u38,u39,u40,u41,u42,u43,u44,u45,u46,u47,u48,u49,u50,u51,u52,u53,u54,u55,u56,u57,u58,u59,u60,u61,u62,u63,u64,u65,u66,u67,u68,u69,u70,u71,u72,u73,u74,u75,u76,u77,u78,u79,u80,u81,u82,u83,u84,u85,u86,u87,u88,u89,u90,u91,u92,u93,u94,u95,u96,u97,u98,u99,u100,u101,u102,u103,u104,u105,u106,u107,u108,u109,u110,u111,u112,u113,u114,u115,u116,u117,u118].toArray,[]⟩ Wa:=by
 subst hC
 replace hQ:=zH hQ
 conv=>arg 2;whnf
 have KM:=zH (show ∀(W:World) (p:Prop),(Below Wa.heap.size Wa W∧p)→W.heap[gm]?=Wa.heap[gm]? from fun W p h=>h.1.block _ (blk hM.blk).2.2)
 have hMb:=zH hM.blk
 replace hM:=zH hM
 refine wp_region_inv [109,110,111,112,113,114,115,116,117,118] (fun l f W=>((¬ Lst l 9→Below Wa.heap.size Wa W)∧l.size=10)∧Fa l 0 (f 109= .pointer (some ⟨gm,0,none⟩))∧Fa l 1 (f 110= .pointer (some ⟨gm,0,none⟩))∧Fa l 2 (f 111= .pointer (some ⟨gm,0,none⟩))∧Fa l 3 (f 112= .agg #[.int .i64 c.sets,.int .i64 c.ways,.int .i64 c.doms,.int .i64 c.pad,.int .i64 c.quantum,.slice S.a0 c.slots.length S.n0,.slice S.a1 c.owners.length S.n1,.slice S.a2 c.chans.length S.n2,.slice S.a3 c.tasks.length S.n3])∧Fa l 4 (f 113= .pointer (some ⟨gm,0,none⟩))∧Fa l 5 (f 114= .pointer (some ⟨gm,0,none⟩))∧Fa l 6 (f 115= .pointer (some ⟨gm,12,none⟩))∧Fa l 7 (f 116= .slice A ds.length n)∧Fa l 8 (f 117= .int .i64 s)∧Fa l 9 (Lst l 3∧Lst l 7∧∃F',MachW B c S sc Z gm (closeOf c s ds) last k F' FL FK A n Al nl Ak nk W∧MEff F Wa W∧∀b,F' b→F b∨Wa.heap.size≤b)) (by kernel_rfl) (by decide) (by kernel_rfl) (by intro s hs;simp at hs⊢;omega) ?_ ?_ ?_
 ·intro l hz hl
  exact ⟨⟨fun _=>(Below.refl _ _).drew,hz⟩,.no (hl 0),.no (hl 1),.no (hl 2),.no (hl 3),.no (hl 4),.no (hl 5),.no (hl 6),.no (hl 7),.no (hl 8),.no (hl 9)⟩
 ·refine StepsL.c 1 [] (fun l f W hR hn hb K Q2 hK=>?_) ?_
  ·obtain ⟨hS,h0,h1,h2,h3,h4,h5,h6,h7,h8,h9⟩:=hR
   clear hb
   refine ⟨?_⟩
   simp only [pfs] at hK⊢
   go_simp
   exact hK.out _ _ byK
  refine StepsL.c 2 [0] (fun l f W hR hn hb K Q2 hK=>?_) ?_
  ·obtain ⟨hS,h0,h1,h2,h3,h4,h5,h6,h7,h8,h9⟩:=hR
   have q0:=h0.out (hb 0 (by simp))
   clear hb
   refine ⟨?_⟩
   simp only [pfs] at hK⊢
   (try simp only [q0] at hK)
   go_simp
   exact hK.out _ _ byK
  refine StepsL.c 3 [1] (fun l f W hR hn hb K Q2 hK=>?_) ?_
  ·obtain ⟨hS,h0,h1,h2,h3,h4,h5,h6,h7,h8,h9⟩:=hR
   have q1:=h1.out (hb 1 (by simp))
   clear hb
   refine ⟨?_⟩
   simp only [pfs] at hK⊢
   (try simp only [q1] at hK)
   go_simp
   exact hK.out _ _ byK
  refine StepsL.c 4 [2] (fun l f W hR hn hb K Q2 hK=>?_) ?_
  ·obtain ⟨hS,h0,h1,h2,h3,h4,h5,h6,h7,h8,h9⟩:=hR
   have q2:=h2.out (hb 2 (by simp))
   have hn9:¬ Lst l 9:=fun h=>hn (h9.out h).1
   have hS9:=hS.1 hn9
   clear hb
   refine ⟨?_⟩
   simp only [pfs] at hK⊢
   (try simp only [q2] at hK)
   obtain ⟨cX,fX,zX⟩:=blk ((KM.out W _ ⟨hS9,hS.2⟩).trans hMb.out)
   go_simp
   exact hK.out _ _ byK
  refine StepsL.c 5 [] byOp ?_
  refine StepsL.c 6 [4] (fun l f W hR hn hb K Q2 hK=>?_) ?_
  ·obtain ⟨hS,h0,h1,h2,h3,h4,h5,h6,h7,h8,h9⟩:=hR
   have q4:=h4.out (hb 4 (by simp))
   clear hb
   refine ⟨?_⟩
   simp only [pfs] at hK⊢
   (try simp only [q4] at hK)
   go_simp
   exact hK.out _ _ byK
  refine StepsL.c 7 [5] (fun l f W hR hn hb K Q2 hK=>?_) ?_
  ·obtain ⟨hS,h0,h1,h2,h3,h4,h5,h6,h7,h8,h9⟩:=hR
   have q5:=h5.out (hb 5 (by simp))
   clear hb
   refine ⟨?_⟩
   simp only [pfs] at hK⊢
   (try simp only [q5] at hK)
   go_simp
   exact hK.out _ _ byK
  refine StepsL.c 8 [6] (fun l f W hR hn hb K Q2 hK=>?_) ?_
  ·obtain ⟨hS,h0,h1,h2,h3,h4,h5,h6,h7,h8,h9⟩:=hR
   have q6:=h6.out (hb 6 (by simp))
   have hn9:¬ Lst l 9:=fun h=>hn (h9.out h).2.1
   have hS9:=hS.1 hn9
   clear hb
   refine ⟨?_⟩
   simp only [pfs] at hK⊢
   (try simp only [q6] at hK)
   obtain ⟨cX,fX,zX⟩:=blk ((KM.out W _ ⟨hS9,hS.2⟩).trans hMb.out)
   go_simp
   exact hK.out _ _ byK
  refine StepsL.c 9 [] byOp ?_
  refine StepsL.c 10 [3,7,8] (fun l f W hR hn hb K Q2 hK=>?_) ?_
  ·obtain ⟨hS,h0,h1,h2,h3,h4,h5,h6,h7,h8,h9⟩:=hR
   have q3:=h3.out (hb 3 (by simp))
   have q7:=h7.out (hb 7 (by simp))
   have q8:=h8.out (hb 8 (by simp))
   have L3:=hb 3 (by simp)
   have L7:=hb 7 (by simp)
   have hS9:=hS.1 hn
   have hMx:=hM.out.ext hS9
   have HL:=turnLeave c S ds A n s ok hds hs F B W (by have:=hMx.size;have:=hMx.lo;omega) hMx.cfg hMx.dom fun b hb=>⟨(hMx.fp b (.inl hb)).1,(hMx.fp b (.inl hb)).2.1⟩
   replace hMx:=zH hMx
   clear hb
   refine ⟨?_⟩
   simp only [pfs] at hK⊢
   (try simp only [q3,q7,q8] at hK)
   simp only [q3,q7,q8]
   go_simp
   go_at_call 52
   refine HL.mono ?_
   clear HL
   rintro e w9 ⟨rfl,hL⟩
   obtain ⟨F9,hD9,hE9,hlt9,hF9⟩:=hL.all
   try dsimp only
   try simp only [Act.put,List.setIfInBounds_toArray,List.set_cons_zero,List.set_cons_succ]
   have hP:=hMx.out.left hD9 hE9 hlt9 (fun b hb=>(hF9 b hb).imp id Nat.le_of_lt) (by unfold closeOf;exact closeUp_len _ _ _ _ _)
   have hbb:MEff F Wa w9:=(MEff.ofBelow hS9).trans (M':=F) ⟨hE9.below.mono (Nat.zero_le _),fun b hb hn=>hE9.keep b hb fun _=>hn⟩ fun b hb=> .inl hb
   have hFF:∀b,F9 b→F b∨Wa.heap.size≤b:=fun b hb=>(hF9 b hb).imp id fun h=>by have:=hS9.size;omega
   refine hK.out _ _ ⟨⟨fun h=>absurd (Lst.self (by rw [hS.2];omega)) h,by simpa using hS.2⟩,h0.k,h1.k,h2.k,h3.k,h4.k,h5.k,h6.k,h7.k,h8.k,⟨fun _=>⟨L3.fwd,L7.fwd,F9,hP,hbb,hFF⟩⟩⟩
  exact StepsL.nil
 ·intro l f W hR hall
  obtain ⟨hS,h0,h1,h2,h3,h4,h5,h6,h7,h8,h9⟩:=hR
  have q0:=h0.out (hall 0 (by decide))
  have q1:=h1.out (hall 1 (by decide))
  have q2:=h2.out (hall 2 (by decide))
  have q3:=h3.out (hall 3 (by decide))
  have q4:=h4.out (hall 4 (by decide))
  have q5:=h5.out (hall 5 (by decide))
  have q6:=h6.out (hall 6 (by decide))
  have q7:=h7.out (hall 7 (by decide))
  have q8:=h8.out (hall 8 (by decide))
  have q9:=h9.out (hall 9 (by decide))
  clear h0 h1 h2 h3 h4 h5 h6 h7 h8 h9
  obtain ⟨_,_,F9,hP,hbb,hFF⟩:=q9
  simp only [pfs]
  replace hP:=zH hP
  clear q0 q1 q2 q3 q4 q5 q6 q7 q8 hall hS
  go_wp2_with fail
  exact hQ.out _ _ _ _ _ _ _ _ _ _ F9 _ hP.out hbb hFF
theorem slotR0 (C:Code)(hC:C=slotR 0){B:Nat}{c:TCfg}{S:TCfgS}{sc:TScr}{Z:TScrS}{gm:Nat}{ds:List TDom}{last:List Int}{k:List (List TWay)}{F FL FK:Nat→Prop}{A:Option Addr}{n:Nat}{Al:Option Addr}{nl:Nat}{Ak:Option Addr}{nk:Nat}{Wa:World}{sn:Nat}{start:Int}(hM:MachW B c S sc Z gm ds last k F FL FK A n Al nl Ak nk Wa)(hsn:sn < c.slots.length)
  {u3 u4 u5 u6 u7 u8 u9 u10 u11 u12 u13 u14 u15 u16 u17 u18 u19 u20 u21 u22 u23 u24 u25 u26 u27 u28 u29 u30 u31 u32 u33 u34 u35 u36 u37 u38 u39 u40 u41 u42 u43 u44 u45 u46 u47 u48 u49 u50 u51 u52 u53 u54 u55 u56 u57 u58 u59 u60 u61 u62 u63 u64 u65 u66 u67 u68 u69 u70 u71 u72 u73 u74 u75 u76 u77 u78 u79 u80 u81 u82 u83 u84 u85 u86 u87 u88 u89 u90 u91 u92 u93 u94 u95 u96 u97 u98 u99 u100 u101 u102 u103 u104 u105 u106 u107 u108 u109 u110 u111 u112 u113 u114 u115 u116 u117 u118:Value} {Q:Exit→Act→World→Prop}
  (hQ:∀(v9 v10 v11 v12 v13 v14 v15 v16 v17:Value) (W':World),Below Wa.heap.size Wa W'→Q .normal ⟨List.toArray (.pointer (some ⟨gm,0,none⟩):: .int .i64 (sn:Nat):: .int .i64 start::u3::u4::u5:: .int .i64 (nth c.slots sn).dom::u7::u8::v9::v10::v11::v12::v13::v14::v15::v16::v17::u18::u19::u20::u21::u22::u23::u24::u25::u26::u27::u28::u29::u30::u31::u32::u33::u34::u35::u36::u37::u38::u39::u40::u41::u42::u43::u44::u45::u46::u47::u48::u49::u50::u51::u52::u53::u54::u55::u56::u57::u58::u59::u60::u61::u62::u63::u64::u65::u66::u67::u68::u69::u70::u71::u72::u73::u74::u75::u76::u77::u78::u79::u80::u81::u82::u83::u84::u85::u86::u87::u88::u89::u90::u91::u92::u93::u94::u95::u96::u97::u98::u99::u100::u101::u102::u103::u104::u105::u106::u107::u108::u109::u110::u111::u112::u113::u114::u115::u116::u117::u118::[]),[]⟩ W'):
  Code.wp Tryd.prog C Q ⟨List.toArray (.pointer (some ⟨gm,0,none⟩):: .int .i64 (sn:Nat):: .int .i64 start::u3::u4::u5::u6::u7::u8::u9::u10::u11::u12::u13::u14::u15::u16::u17::u18::u19::u20::u21::u22::u23::u24::u25::u26::u27::u28::u29::u30::u31::u32::u33::u34::u35::u36::u37::u38::u39::u40::u41::u42::u43::u44::u45::u46::u47::u48::u49::u50::u51::u52::u53::u54::u55::u56::u57::u58::u59::u60::u61::u62::u63::u64::u65::u66::u67::u68::u69::u70::u71::u72::u73::u74::u75::u76::u77::u78::u79::u80::u81::u82::u83::u84::u85::u86::u87::u88::u89::u90::u91::u92::u93::u94::u95::u96::u97::u98::u99::u100::u101::u102::u103::u104::u105::u106::u107::u108::u109::u110::u111::u112::u113::u114::u115::u116::u117::u118::[]),[]⟩ Wa:=by
 subst hC
 replace hQ:=zH hQ
 conv=>arg 2;whnf
 obtain ⟨bS,oS,eS,hIS,k0,k1⟩:=hM.cfg.s0.at_slot hsn
 have hbm:=hM.blk
 rw [eS] at hbm
 obtain ⟨cm,fm,zm⟩:=blk hbm
 have i0:(0:Int)≤(sn:Nat):=by omega
 have i1:((sn:Nat):Int) < c.slots.length:=by omega
 have hlS:bS < Wa.heap.size:=by have hb':bS < B:=hIS;have:=hM.size;have:=hM.lo;omega
 clear hM hbm
 go_wp2_with fail
 exact hQ.out _ _ _ _ _ _ _ _ _ _ byB
theorem slotR1 (C:Code)(hC:C=slotR 1){B:Nat}{c:TCfg}{S:TCfgS}{sc:TScr}{Z:TScrS}{gm:Nat}{ds:List TDom}{last:List Int}{k:List (List TWay)}{F FL FK:Nat→Prop}{A:Option Addr}{n:Nat}{Al:Option Addr}{nl:Nat}{Ak:Option Addr}{nk:Nat}{Wa:World}{sn:Nat}{start:Int}(hM:MachW B c S sc Z gm ds last k F FL FK A n Al nl Ak nk Wa)(hsn:sn < c.slots.length)(hst:0≤start∧start≤100000)(hln:0≤(nth c.slots sn).len∧(nth c.slots sn).len≤1000)(hpd:0≤c.pad∧c.pad≤100)
  {u3 u4 u5 u6 u7 u8 u9 u10 u11 u12 u13 u14 u15 u16 u17 u18 u19 u20 u21 u22 u23 u24 u25 u26 u27 u28 u29 u30 u31 u32 u33 u34 u35 u36 u37 u38 u39 u40 u41 u42 u43 u44 u45 u46 u47 u48 u49 u50 u51 u52 u53 u54 u55 u56 u57 u58 u59 u60 u61 u62 u63 u64 u65 u66 u67 u68 u69 u70 u71 u72 u73 u74 u75 u76 u77 u78 u79 u80 u81 u82 u83 u84 u85 u86 u87 u88 u89 u90 u91 u92 u93 u94 u95 u96 u97 u98 u99 u100 u101 u102 u103 u104 u105 u106 u107 u108 u109 u110 u111 u112 u113 u114 u115 u116 u117 u118:Value} {Q:Exit→Act→World→Prop}
  (hQ:∀(v18 v19 v20 v21 v22 v23 v24 v25 v26 v27 v28 v29 v30 v31 v32 v33 v34:Value) (W':World),Below Wa.heap.size Wa W'→Q .normal ⟨List.toArray (.pointer (some ⟨gm,0,none⟩):: .int .i64 (sn:Nat):: .int .i64 start::u3::u4::u5::u6:: .int .i64 (start+(nth c.slots sn).len - c.pad)::u8::u9::u10::u11::u12::u13::u14::u15::u16::u17::v18::v19::v20::v21::v22::v23::v24::v25::v26::v27::v28::v29::v30::v31::v32::v33::v34::u35::u36::u37::u38::u39::u40::u41::u42::u43::u44::u45::u46::u47::u48::u49::u50::u51::u52::u53::u54::u55::u56::u57::u58::u59::u60::u61::u62::u63::u64::u65::u66::u67::u68::u69::u70::u71::u72::u73::u74::u75::u76::u77::u78::u79::u80::u81::u82::u83::u84::u85::u86::u87::u88::u89::u90::u91::u92::u93::u94::u95::u96::u97::u98::u99::u100::u101::u102::u103::u104::u105::u106::u107::u108::u109::u110::u111::u112::u113::u114::u115::u116::u117::u118::[]),[]⟩ W'):
  Code.wp Tryd.prog C Q ⟨List.toArray (.pointer (some ⟨gm,0,none⟩):: .int .i64 (sn:Nat):: .int .i64 start::u3::u4::u5::u6::u7::u8::u9::u10::u11::u12::u13::u14::u15::u16::u17::u18::u19::u20::u21::u22::u23::u24::u25::u26::u27::u28::u29::u30::u31::u32::u33::u34::u35::u36::u37::u38::u39::u40::u41::u42::u43::u44::u45::u46::u47::u48::u49::u50::u51::u52::u53::u54::u55::u56::u57::u58::u59::u60::u61::u62::u63::u64::u65::u66::u67::u68::u69::u70::u71::u72::u73::u74::u75::u76::u77::u78::u79::u80::u81::u82::u83::u84::u85::u86::u87::u88::u89::u90::u91::u92::u93::u94::u95::u96::u97::u98::u99::u100::u101::u102::u103::u104::u105::u106::u107::u108::u109::u110::u111::u112::u113::u114::u115::u116::u117::u118::[]),[]⟩ Wa:=by
 subst hC
 replace hQ:=zH hQ
 conv=>arg 2;whnf
 obtain ⟨bS,oS,eS,hIS,k0,k1⟩:=hM.cfg.s0.at_slot hsn
 have hbm:=hM.blk
 rw [eS] at hbm
 obtain ⟨cm,fm,zm⟩:=blk hbm
 have i0:(0:Int)≤(sn:Nat):=by omega
 have i1:((sn:Nat):Int) < c.slots.length:=by omega
 have hlS:bS < Wa.heap.size:=by have hb':bS < B:=hIS;have:=hM.size;have:=hM.lo;omega
 have e1:IntKind.i64.wrap (start+(nth c.slots sn).len)=start+(nth c.slots sn).len:=IntWalk.i64_in _ (by omega)
 have e2:IntKind.i64.wrap (start+(nth c.slots sn).len - c.pad)=start+(nth c.slots sn).len - c.pad:=IntWalk.i64_in _ (by omega)
 clear hM hbm
 go_quiet (fail)
 go_wp2_with fail
 exact hQ.out _ _ _ _ _ _ _ _ _ _ _ _ _ _ _ _ _ _ byB
end
end Go.Proofs.YtinlmkhlgclbfabDoor
