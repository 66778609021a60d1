/- TurnE -/
import Derived.Test.YtinlmkhlgclbfabDoorAs29
namespace Go.Proofs.YtinlmkhlgclbfabDoor
open Go.RowKit
set_option maxRecDepth 100000
set_option maxHeartbeats 8000000
structure LvW (w:World) (F:Nat→Prop) (B:Nat) (c:TCfg) (S:TCfgS) (A:Option Addr) (n:Nat) (ds:List TDom) (W:World):Prop where
 all:∃F':Nat→Prop,DomsO F' W (.slice A ds.length n) ds∧DEff B (fun _=>F) (fun _=>F') w W∧(∀b,F' b→b < W.heap.size)∧∀b,F' b→F b∨w.heap.size < b
 box:W.heap[w.heap.size]?=some (.cells #[.int .i64 c.sets,.int .i64 c.ways,.int .i64 c.doms,.int .i64 c.pad,.int .i64 c.quantum,.slice S.a0 c.slots.length S.n0,.slice S.a1 c.owners.length S.n1,.slice S.a2 c.chans.length S.n2,.slice S.a3 c.tasks.length S.n3] 27)
 size:w.heap.size+1≤W.heap.size
 lt:∀b,F b→b < w.heap.size
 hB:B≤w.heap.size
 lo:∀b,F b→B≤b
 ok:LvOk c ds
theorem LvW.turn {w:World}{F:Nat→Prop}{B:Nat}{c:TCfg}{S:TCfgS}{A:Option Addr}{n:Nat}{ds ds':List TDom}{W W':World}{F1 F2:Nat→Prop}(h:LvW w F B c S A n ds W)(hE1:DEff B (fun _=>F) (fun _=>F1) w W)(h1:∀b,F1 b→F b∨w.heap.size < b)
  (hO:DomsO F2 W' (.slice A ds'.length n) ds') (hE:DEff B (fun _=>F1) (fun _=>F2) W W') (hlt:∀b,F2 b→b < W'.heap.size) (hok:LvOk c ds'):LvW w F B c S A n ds' W':=by
 have hs:=h.size
 have hz:=hE.below.size
 have hbx:¬ F1 w.heap.size:=fun e=>by
  rcases h1 _ e with h2|h2
  ·have:=h.lt _ h2;omega
  ·omega
 refine ⟨⟨F2,hO,hE1.trans hE,hlt,fun b hb=>?_⟩,(hE.keep _ (by omega) (fun _=>hbx)).trans h.box,by omega,h.lt,h.hB,h.lo,hok⟩
 rcases hE.grow 0 b hb with h2|h2
 ·exact h1 b h2
 ·right;omega
theorem LvW.cfg {w:World}{F:Nat→Prop}{B:Nat}{c:TCfg}{S:TCfgS}{A:Option Addr}{n:Nat}{ds:List TDom}{W:World}(h:LvW w F B c S A n ds W)(hs:TCfg.At (Low B) w c S):TCfg.At (Low B) W c S:=by
 obtain ⟨F',_,hE,_⟩:=h.all
 exact hs.keep fun b hb=>hE.below.block b hb
theorem doms_ring {F:Nat→Prop}{w:World}{A:Option Addr}{n:Nat}{ds:List TDom}(h:DomsO F w (.slice A ds.length n) ds){k i:Nat}(hk:k < ds.length)(hi:i < (nth ds k).ins.length)(hF:∀b,F b→b < w.heap.size):
  ∃(gd g ni:Nat) (Ar:Option Addr) (cr:Nat),A=some ⟨gd,0,none⟩∧F gd∧gd < w.heap.size∧w.cell? ⟨gd,k*7+3,none⟩=some (.slice (some ⟨g,0,none⟩) (nth ds k).ins.length ni)∧F g∧g≠gd∧
   w.cell? ⟨g,i*2,none⟩=some (.slice Ar (nth (nth ds k).ins i).vals.length cr)∧w.cell? ⟨g,i*2+1,none⟩=some (.int .i64 (nth (nth ds k).ins i).lost)∧(∀o,w.frozen? ⟨g,o,none⟩=false)∧Sl cInt F w Ar cr (nth (nth ds k).ins i).vals∧
   ∀(W:World) (A':Option Addr) (c':Nat) (r:TRing),(∀b,b < w.heap.size→W.heap[b]?=w.heap[b]?)→w.heap.size≤W.heap.size→ownsZ W 3 1 (.slice A' r.vals.length c') r.vals.length (r.vals.flatMap fun n=>[Value.int .i64 n])→
    (∀b,rowZ (.slice A' r.vals.length c')=some b→w.heap.size≤b∧b < W.heap.size)→
    DomsO (fun b=>F b∨(w.heap.size≤b∧b < W.heap.size)) ((W.setCell ⟨g,i*2,none⟩ (.slice A' r.vals.length c')).setCell ⟨g,i*2+1,none⟩ (.int .i64 r.lost)) (.slice A ds.length n) (ds.set k {nth ds k with ins:=(nth ds k).ins.set i r}):=by
 obtain ⟨gd,cd,es,Gi,hv,hFg,hgl,⟨T,G,rfl,hO,hG⟩,hcs,hGi,hfr,hput⟩:=ozl_turn h hk
 injection hv with e1 _ e3
 obtain ⟨g,Ar,cr,ea,hGg,hg,c0,c1,hf,hsl,hset⟩:=hO.ring hi
 refine ⟨gd,g,T.n2,Ar,cr,e1,hFg,hgl,?_,(hGi g (hG 2 g hGg)).1,(hGi g (hG 2 g hGg)).2,c0,c1,hf,hsl.mono fun b hb=>(hGi b (hG 2 b hb)).1,fun W A' c' r hkk hs hr hrow=>?_⟩
 ·have:=hcs 3 _ rfl
  rw [ea] at this
  exact this
 ·refine hput _ _ (fun b=>Gi b∨(w.heap.size≤b∧b < W.heap.size)) _ ⟨T,addG G 2 w.heap.size W.heap.size,?_,hset W A' c' r hkk hs hr hrow,fun j b hb=>?_⟩ (fun b hb hn=>?_) (fun b hb=> .inl hb) (fun b hb=>?_) (fun b hb hf=>?_)
  ·simp [TDom.cells]
  ·rcases hb with hb|hb
   ·exact .inl (hG j b hb)
   ·exact .inr hb.2
  ·have hne:b≠g:=fun e=>hn (hG 2 b (e ▸ hGg))
   exact (Below.heap_setCell _ _ _ _ hne).trans ((Below.heap_setCell _ _ _ _ hne).trans (hkk b (hF b hb)))
  ·rcases hb with hb|hb
   ·exact ⟨.inl (hGi b hb).1,(hGi b hb).2⟩
   ·exact ⟨.inr hb,by omega⟩
  ·rcases hb with hb|hb
   ·exact hb
   ·have:=hF b hf;omega
theorem doms_out {F:Nat→Prop}{w:World}{A:Option Addr}{n:Nat}{ds:List TDom}(h:DomsO F w (.slice A ds.length n) ds){k i:Nat}(hk:k < ds.length)(hi:i < (nth ds k).outs.length)(hF:∀b,F b→b < w.heap.size):
  ∃(gd g ni:Nat) (Ao:Option Addr) (co:Nat),A=some ⟨gd,0,none⟩∧F gd∧gd < w.heap.size∧w.cell? ⟨gd,k*7+5,none⟩=some (.slice (some ⟨g,0,none⟩) (nth ds k).outs.length ni)∧F g∧g≠gd∧
   w.cell? ⟨g,i,none⟩=some (.slice Ao (nth (nth ds k).outs i).length co)∧(∀o,w.frozen? ⟨g,o,none⟩=false)∧Sl cInt F w Ao co (nth (nth ds k).outs i)∧
   DomsO F (w.setCell ⟨g,i,none⟩ (.slice none 0 0)) (.slice A ds.length n) (ds.set k {nth ds k with outs:=(nth ds k).outs.set i []}):=by
 obtain ⟨gd,cd,es,Gi,hv,hFg,hgl,⟨T,G,rfl,hO,hG⟩,hcs,hGi,hfr,hput⟩:=ozl_turn h hk
 injection hv with e1 _ e3
 obtain ⟨g,Ao,co,Go,ea,hGg,hg,c0,hf,hown,hrow,hGo,hset⟩:=hO.out hi
 refine ⟨gd,g,T.n4,Ao,co,e1,hFg,hgl,?_,(hGi g (hG 4 g hGg)).1,(hGi g (hG 4 g hGg)).2,c0,hf,?_,?_⟩
 ·have:=hcs 5 _ rfl
  rw [ea] at this
  exact this
 ·have:OZl oInt 3 Go w (.slice Ao (nth (nth ds k).outs i).length co) (nth (nth ds k).outs i):=ozl_flat.2 ⟨hown,hrow⟩
  exact this.read.mono fun b hb=>(hGi b (hG 4 b (hGo b hb).1)).1
 ·have h2:=hset w none 0 [] (fun _ _ _=>rfl) (Nat.le_refl _) (ownsZ.nil _ _ _) (fun b hb=>by cases hb)
  refine hput _ _ Gi F ⟨T,addG G 4 w.heap.size w.heap.size,?_,h2,fun j b hb=>?_⟩ (fun b hb hn=>Below.heap_setCell _ _ _ _ (fun e=>hn (hG 4 b (e ▸ hGg)))) (fun b hb=>hb) (fun b hb=>hGi b hb) (fun b hb _=>hb)
  ·simp [TDom.cells]
  ·rcases hb with hb|hb
   ·exact hG j b hb
   ·omega
theorem turnLeave (c:TCfg)(S:TCfgS)(ds:List TDom)(A:Option Addr)(n:Nat)(s:Int)(ok:CfgOk c)(hds:LvOk c ds)(h:0≤s∧s < c.slots.length)(F:Nat→Prop)(B:Nat)(w:World)(hB:B≤w.heap.size)(hs:TCfg.At (Low B) w c S)
  (hO:DomsO F w (.slice A ds.length n) ds) (hF:∀b,F b→B≤b∧b < w.heap.size):
  Calls Tryd.prog 52 #[.agg #[.int .i64 c.sets,.int .i64 c.ways,.int .i64 c.doms,.int .i64 c.pad,.int .i64 c.quantum,.slice S.a0 c.slots.length S.n0,.slice S.a1 c.owners.length S.n1,.slice S.a2 c.chans.length S.n2,.slice S.a3 c.tasks.length S.n3],.slice A ds.length n,.int .i64 s] w fun e w'=>e= .returned (.tuple #[])∧LvW w F B c S A n (closeOf c s ds) w':=by
 obtain ⟨sn,rfl⟩:=Int.eq_ofNat_of_zero_le h.1
 have hsn:sn < c.slots.length:=by omega
 have n6:=ok.nslots
 have n4:=ok.nchans
 have hdm:=ok.slot sn hsn
 have HC:=zH (show ∀D,D=(nth c.slots sn).dom→closeOf c sn ds=upTo (closeStep c D) (c.chans.length - 0) 0 ds from fun D e=>by subst e;rfl)
 have H0:∀W,W=w.alloc (.cells #[.int .i64 c.sets,.int .i64 c.ways,.int .i64 c.doms,.int .i64 c.pad,.int .i64 c.quantum,.slice S.a0 c.slots.length S.n0,.slice S.a1 c.owners.length S.n1,.slice S.a2 c.chans.length S.n2,.slice S.a3 c.tasks.length S.n3] 27)→LvW w F B c S A n ds W:=by
  rintro W rfl
  have hb:Below w.heap.size w (w.alloc (.cells #[.int .i64 c.sets,.int .i64 c.ways,.int .i64 c.doms,.int .i64 c.pad,.int .i64 c.quantum,.slice S.a0 c.slots.length S.n0,.slice S.a1 c.owners.length S.n1,.slice S.a2 c.chans.length S.n2,.slice S.a3 c.tasks.length S.n3] 27)):=byB
  exact ⟨⟨F,hO.keep fun b h=>hb.block b (hF b h).2,DEff.ext hB hb,fun b h=>by have:=(hF b h).2;simp;omega,fun b h=> .inl h⟩,byH,by simp,fun b h=>(hF b h).2,hB,fun b h=>(hF b h).1,hds⟩
 have HS:=zH hs
 have hSS:=hs
 (obtain ⟨a0,n0,a1,n1,a2,n2,a3,n3⟩:=S;obtain ⟨hs0,hs1,hs2,hs3⟩:=hs;dsimp only at hs0 hs1 hs2 hs3⊢)
 obtain ⟨b1,o1,e1,hI1,k0,k1⟩:=hs0.at_slot hsn
 have hbl:b1 < w.heap.size:=Nat.lt_of_lt_of_le hI1 hB
 have i0:(0:Int)≤sn:=by omega
 have i1:(sn:Int) < c.slots.length:=by omega
 have m2:=Nat.le_trans hs2.cap hs2.max
 unfold maxLen at m2
 clear hs0 hs1 hs2 hs3 hSS k1 hO hds
 subst e1
 replace H0:=zH H0
 generalize hD:(nth c.slots sn).dom=D at*
 have HD:=zH hD
 clear hD
 go_enter Tryd.func52,Tryd.ntmps52
 go_wp2_with fail
 go_loopw [19] (fun iv wr=>∃(i:Nat) (dsi:List TDom),i≤c.chans.length∧iv= .int .i64 i∧Hid (closeOf c sn ds=upTo (closeStep c D) (c.chans.length - i) i dsi)∧dsi.length=ds.length∧LvW w F B c ⟨some ⟨b1,o1,none⟩,n0,a1,n1,a2,n2,a3,n3⟩ A n dsi wr) (fun iv _=>c.chans.length - (intOf iv).toNat)
 case atStart=>exact ⟨0,ds,Nat.zero_le _,rfl,zH (HC.out D rfl),rfl,H0.out _ rfl⟩
 case round=>
  obtain ⟨i,dsi,hi,rfl,hcl,hle,hL⟩:=hrel
  have hz0:=hL.size
  by_cases hlt:i < c.chans.length
  ·have hc2:Sl cChan (Low B) wr a2 n2 c.chans:=(hL.cfg HS.out).s2
   obtain ⟨b2,o2,rfl,hI2,x0,x1,x2⟩:=hc2.at_chan hlt
   have hbx:=hL.box
   obtain ⟨c0,f0,z0⟩:=blk hbx
   have hI2:b2 < B:=hI2
   have hB2:=hL.hB
   have hbr:b2 < wr.heap.size:=by omega
   have j0:(0:Int)≤i:=by omega
   have j1:(i:Int) < c.chans.length:=by omega
   have hch:=ok.chan i hlt
   by_cases hx:(nth c.chans i).src=D
   ·have hbx1:((nth c.chans i).src==D)=true:=by simp [hx]
    obtain ⟨F1,hO1,hE1,hF1,hn1⟩:=hL.all
    have hok:=hL.ok
    have hlen:=hok.len
    obtain ⟨tq,hto⟩:=Int.eq_ofNat_of_zero_le hch.2.1.1
    obtain ⟨fr,hfr⟩:=Int.eq_ofNat_of_zero_le hch.1.1
    obtain ⟨sz,hsz⟩:=Int.eq_ofNat_of_zero_le (show 0≤(nth c.chans i).size by omega)
    have hDf:D=(fr:Int):=by rw [← hx,hfr]
    have hto2:tq < dsi.length:=by omega
    have hfr2:fr < dsi.length:=by omega
    have hne:fr≠tq:=by intro e;apply hch.2.2.1;rw [hto,hfr,e]
    have hmv:moveTo c i dsi=dsi.set tq {nth dsi tq with ins:=(nth dsi tq).ins.set i (comeR (nth (nth dsi tq).ins i) sz (nth (nth dsi fr).outs i))} :=by unfold moveTo;rw [hto,hfr,hsz];rfl
    have hem:emptyOut c i (moveTo c i dsi)=(moveTo c i dsi).set fr {nth (moveTo c i dsi) fr with outs:=(nth (moveTo c i dsi) fr).outs.set i []} :=by unfold emptyOut;rw [hfr];rfl
    have hstep:closeStep c D i dsi=emptyOut c i (moveTo c i dsi):=by unfold closeStep;rw [if_pos hx]
    have hok1:=hok.move ok hlt
    have hok2:=hok1.empty ok hlt
    have hi1:i < (nth dsi tq).ins.length:=by rw [hok.ins _ hto2];exact hlt
    have hi2:i < (nth dsi fr).outs.length:=by rw [hok.outs _ hfr2];exact hlt
    have hrg:=hok.ring tq i hto2 hlt
    have hou:=hok.out fr i hfr2 hlt
    have hEa:Below wr.heap.size wr (wr.alloc (.cells #[.int .i64 fr,.int .i64 tq,.int .i64 sz] 124)):=byB
    rw [hfr] at x0
    rw [hto] at x1
    rw [hsz] at x2
    have hWa:∃Wa,Wa=wr.alloc (.cells #[.int .i64 fr,.int .i64 tq,.int .i64 sz] 124):=⟨_,rfl⟩
    obtain ⟨Wa,hWa⟩:=hWa
    rw [← hWa] at hEa
    have hsa:Wa.heap.size=wr.heap.size+1:=by rw [hWa];simp
    have hOa:DomsO F1 Wa (.slice A dsi.length n) dsi:=hO1.keep fun b hb=>hEa.block b (hF1 b hb)
    have hFa:∀b,F1 b→b < Wa.heap.size:=fun b hb=>by have:=hF1 b hb;omega
    obtain ⟨gd,g,ni,Ar,cr,eA,hFd,hgd,cI,hFg,hgne,r0,r1,hfz,hslr,hput⟩:=doms_ring hOa hto2 hi1 hFa
    obtain ⟨gd',go,no,Ao,co,eA',hFd',hgd',cO,hFo,hone,q0,hfo,hslo,_⟩:=doms_out hOa hfr2 hi2 hFa
    obtain rfl:gd=gd':=by rw [eA] at eA';injection eA' with eA';injection eA'
    subst eA
    have hgr:gd < wr.heap.size:=hF1 gd hFd
    have hgo:go < wr.heap.size:=hF1 go hFo
    have hgg:g < wr.heap.size:=hF1 g hFg
    have cI0:wr.cell? ⟨gd,tq*7+3,none⟩=some (.slice (some ⟨g,0,none⟩) (nth dsi tq).ins.length ni):=(hEa.cell (p:=⟨gd,_,none⟩) hgr).symm.trans cI
    have KO:=zH (fun W (h:Below Wa.heap.size Wa W)=>(h.cell (p:=⟨gd,fr*7+5,none⟩) hgd).trans cO)
    have KQ:=zH (fun W (h:Below Wa.heap.size Wa W)=>(h.cell (p:=⟨go,i,none⟩) (hFa go hFo)).trans q0)
    have KR:=zH (fun W (h:Below Wa.heap.size Wa W)=>(⟨(h.cell (p:=⟨g,i*2,none⟩) (hFa g hFg)).trans r0,(h.cell (p:=⟨g,i*2+1,none⟩) (hFa g hFg)).trans r1⟩:_∧_))
    have KF:=zH (fun W (h:Below Wa.heap.size Wa W)=>(fun o=>(h.frozen (p:=⟨g,o,none⟩) (hFa g hFg)).trans (hfz o):∀o,W.frozen? ⟨g,o,none⟩=false))
    have hbx2:Wa.heap[wr.heap.size]?=some (.cells #[.int .i64 fr,.int .i64 tq,.int .i64 sz] 124):=by rw [hWa];exact byH
    have KX:=zH (fun W (h:Below Wa.heap.size Wa W)=>(h.block _ (by omega)).trans hbx2)
    have KC:=zH (fun W (h:Below Wa.heap.size Wa W)=>(h.block _ (by omega)).trans ((hEa.block _ (by omega)).trans hbx))
    have HM:=zH (fun W (h:Below Wa.heap.size Wa W)=>mailCome (nth (nth dsi tq).ins i).vals (nth (nth dsi fr).outs i) (nth (nth dsi tq).ins i).lost sz Ar Ao cr co Wa.heap.size W h.size ((hslr.mono fun b hb=>hFa b hb).keep fun b hb=>h.block b hb) ((hslo.mono fun b hb=>hFa b hb).keep fun b hb=>h.block b hb) (by omega) (by omega) hrg.2.1 hrg.2.2 (by omega))
    have j2:(tq:Int) < ds.length:=by omega
    have j3:(0:Int)≤tq:=by omega
    have j4:(i:Int) < (nth dsi tq).ins.length:=by omega
    have j5:(fr:Int) < ds.length:=by omega
    have j6:(0:Int)≤fr:=by omega
    have j7:(i:Int) < (nth dsi fr).outs.length:=by omega
    have hput2:=zH hput
    have hst:=zH (⟨hx,hto,hfr,hsz,hDf,hmv,hem,hstep,hsa,hle,hlen⟩:_∧_∧_∧_∧_∧_∧_∧_∧_∧_∧_)
    have hfacts:=zH (⟨hOa,hslr,hslo,hO1,hE1,hn1,hL⟩:_∧_∧_∧_∧_∧_∧_)
    have hle2:Wa.heap.size≤wr.heap.size+1:=by omega
    have hle3:wr.heap.size+1≤Wa.heap.size:=by omega
    have hdl:ds.length=dsi.length:=hle.symm
    replace hdl:=zH hdl
    clear hx hto hfr hsz hmv hem hstep hsa hle hlen hslr hslo hput hOa hO1 hL hfz hfo cI cO q0 r0 r1 hbx2
    subst hDf
    replace hWa:=zH hWa
    go_wp2_with fail
    rw [← hWa.out]
    refine wp_region_invT 15 [36,37,38,39,40,41,42,43,44,45,46,47,48,49,50] (fun l f W=>(Below Wa.heap.size Wa W)∧Fa l 0 (f 36= .pointer (some ⟨g,i*2,none⟩))∧Fa l 1 (f 37= .pointer (some ⟨g,i*2,none⟩))∧Fa l 2 (f 38= .pointer (some ⟨g,i*2,none⟩))∧Fa l 3 (f 39= .agg #[.slice Ar (nth (nth dsi tq).ins i).vals.length cr,.int .i64 (nth (nth dsi tq).ins i).lost])∧Fa l 4 (f 40= .pointer (some ⟨wr.heap.size,2,none⟩))∧Fa l 5 (f 41= .int .i64 sz)∧Fa l 6 (f 42= .slice (some ⟨gd,0,none⟩) ds.length n)∧Fa l 7 (f 43= .int .i64 fr)∧Fa l 8 (f 44= .pointer (some ⟨gd,fr*7,none⟩))∧Fa l 9 (f 45= .pointer (some ⟨gd,fr*7+5,none⟩))∧Fa l 10 (f 46= .slice (some ⟨go,0,none⟩) (nth dsi fr).outs.length no)∧Fa l 11 (f 47= .int .i64 i)∧Fa l 12 (f 48= .pointer (some ⟨go,i,none⟩))∧Fa l 13 (f 49= .slice Ao (nth (nth dsi fr).outs i).length co)∧Fa l 14 (∃A3 c3,f 50= .agg #[.slice A3 (comeVals (nth (nth dsi tq).ins i).vals (nth (nth dsi fr).outs i) sz).length c3,.int .i64 (comeLost (nth (nth dsi tq).ins i).vals (nth (nth dsi fr).outs i) (nth (nth dsi tq).ins i).lost sz)]∧ownsZ W 3 1 (.slice A3 (comeVals (nth (nth dsi tq).ins i).vals (nth (nth dsi fr).outs i) sz).length c3) (comeVals (nth (nth dsi tq).ins i).vals (nth (nth dsi fr).outs i) sz).length ((comeVals (nth (nth dsi tq).ins i).vals (nth (nth dsi fr).outs i) sz).flatMap fun n=>[Value.int .i64 n])∧(∀b,rowZ (.slice A3 (comeVals (nth (nth dsi tq).ins i).vals (nth (nth dsi fr).outs i) sz).length c3)=some b→Wa.heap.size≤b∧b < W.heap.size))) (by kernel_rfl) (by decide) (by kernel_rfl) (by kernel_rfl) (by intro s hs;simp at hs⊢;omega) ?_ ?_ ?_
    ·intro l hz hl
     exact ⟨(Below.refl _ _).drew,.no (hl 0),.no (hl 1),.no (hl 2),.no (hl 3),.no (hl 4),.no (hl 5),.no (hl 6),.no (hl 7),.no (hl 8),.no (hl 9),.no (hl 10),.no (hl 11),.no (hl 12),.no (hl 13),.no (hl 14)⟩
    ·simp only [List.take_succ_cons,List.take_zero]
     refine StepsL.c 1 [] byOp ?_
     refine StepsL.c 2 [] byOp ?_
     refine StepsL.c 3 [1] (fun l f W hR hn hb K Q2 hK=>?_) ?_
     ·obtain ⟨hS,h0,h1,h2,h3,h4,h5,h6,h7,h8,h9,h10,h11,h12,h13,h14⟩:=hR
      have q1:=h1.out (hb 1 (by simp))
      clear hb
      refine ⟨?_⟩
      simp only [pfs] at hK⊢
      (try simp only [q1] at hK)
      go_simp
      exact hK.out _ _ byK
     refine StepsL.c 4 [2] (fun l f W hR hn hb K Q2 hK=>?_) ?_
     ·obtain ⟨hS,h0,h1,h2,h3,h4,h5,h6,h7,h8,h9,h10,h11,h12,h13,h14⟩:=hR
      have q2:=h2.out (hb 2 (by simp))
      clear hb
      refine ⟨?_⟩
      simp only [pfs] at hK⊢
      (try simp only [q2] at hK)
      obtain ⟨kr0,kr1⟩:=KR.out W hS
      go_simp
      exact hK.out _ _ byK
     refine StepsL.c 5 [] byOp ?_
     refine StepsL.c 6 [4] (fun l f W hR hn hb K Q2 hK=>?_) ?_
     ·obtain ⟨hS,h0,h1,h2,h3,h4,h5,h6,h7,h8,h9,h10,h11,h12,h13,h14⟩:=hR
      have q4:=h4.out (hb 4 (by simp))
      clear hb
      refine ⟨?_⟩
      simp only [pfs] at hK⊢
      (try simp only [q4] at hK)
      obtain ⟨cX,fX,zX⟩:=blk (KX.out W hS)
      go_simp
      exact hK.out _ _ byK
     refine StepsL.c 7 [] byOp ?_
     refine StepsL.c 8 [] byOp ?_
     refine StepsL.c 9 [6,7] (fun l f W hR hn hb K Q2 hK=>?_) ?_
     ·obtain ⟨hS,h0,h1,h2,h3,h4,h5,h6,h7,h8,h9,h10,h11,h12,h13,h14⟩:=hR
      have q6:=h6.out (hb 6 (by simp))
      have q7:=h7.out (hb 7 (by simp))
      clear hb
      refine ⟨?_⟩
      simp only [pfs] at hK⊢
      (try simp only [q6,q7] at hK)
      go_simp
      exact hK.out _ _ byK
     refine StepsL.c 10 [8] (fun l f W hR hn hb K Q2 hK=>?_) ?_
     ·obtain ⟨hS,h0,h1,h2,h3,h4,h5,h6,h7,h8,h9,h10,h11,h12,h13,h14⟩:=hR
      have q8:=h8.out (hb 8 (by simp))
      clear hb
      refine ⟨?_⟩
      simp only [pfs] at hK⊢
      (try simp only [q8] at hK)
      go_simp
      exact hK.out _ _ byK
     refine StepsL.c 11 [9] (fun l f W hR hn hb K Q2 hK=>?_) ?_
     ·obtain ⟨hS,h0,h1,h2,h3,h4,h5,h6,h7,h8,h9,h10,h11,h12,h13,h14⟩:=hR
      have q9:=h9.out (hb 9 (by simp))
      clear hb
      refine ⟨?_⟩
      simp only [pfs] at hK⊢
      (try simp only [q9] at hK)
      have kc:=KO.out W hS
      go_simp
      exact hK.out _ _ byK
     refine StepsL.c 12 [] byOp ?_
     refine StepsL.c 13 [10,11] (fun l f W hR hn hb K Q2 hK=>?_) ?_
     ·obtain ⟨hS,h0,h1,h2,h3,h4,h5,h6,h7,h8,h9,h10,h11,h12,h13,h14⟩:=hR
      have q10:=h10.out (hb 10 (by simp))
      have q11:=h11.out (hb 11 (by simp))
      clear hb
      refine ⟨?_⟩
      simp only [pfs] at hK⊢
      (try simp only [q10,q11] at hK)
      go_simp
      exact hK.out _ _ byK
     refine StepsL.c 14 [12] (fun l f W hR hn hb K Q2 hK=>?_) ?_
     ·obtain ⟨hS,h0,h1,h2,h3,h4,h5,h6,h7,h8,h9,h10,h11,h12,h13,h14⟩:=hR
      have q12:=h12.out (hb 12 (by simp))
      clear hb
      refine ⟨?_⟩
      simp only [pfs] at hK⊢
      (try simp only [q12] at hK)
      have kc:=KQ.out W hS
      go_simp
      exact hK.out _ _ byK
     refine StepsL.c 15 [3,5,13] (fun l f W hR hn hb K Q2 hK=>?_) ?_
     ·obtain ⟨hS,h0,h1,h2,h3,h4,h5,h6,h7,h8,h9,h10,h11,h12,h13,h14⟩:=hR
      have q3:=h3.out (hb 3 (by simp))
      have q5:=h5.out (hb 5 (by simp))
      have q13:=h13.out (hb 13 (by simp))
      clear hb
      refine ⟨?_⟩
      simp only [pfs] at hK⊢
      (try simp only [q3,q5,q13] at hK)
      have HC:=HM.out W hS
      go_simp
      go_at_call 62
      refine HC.mono ?_
      clear HC
      rintro e w3 ⟨A3,c3,rfl,hown3,hb3⟩
      try dsimp only
      try simp only [Act.put,List.setIfInBounds_toArray,List.set_cons_zero,List.set_cons_succ]
      refine hK.out _ _ ⟨hS.trans (hb3.mono hS.size),h0.k,h1.k,h2.k,h3.k,h4.k,h5.k,h6.k,h7.k,h8.k,h9.k,h10.k,h11.k,h12.k,h13.k,⟨fun _=>⟨A3,c3,rfl,.of hown3,fun b hb=>⟨Nat.le_trans hS.size (own_lt hown3 b (rowZ_own hb)).1,(own_lt hown3 b (rowZ_own hb)).2⟩⟩⟩⟩
     exact StepsL.nil
    ·intro l f W hR hall
     obtain ⟨hS,h0,h1,h2,h3,h4,h5,h6,h7,h8,h9,h10,h11,h12,h13,h14⟩:=hR
     have q0:=h0.out (hall 0 (by decide))
     have q1:=h1.out (hall 1 (by decide))
     have q2:=h2.out (hall 2 (by decide))
     have q3:=h3.out (hall 3 (by decide))
     have q4:=h4.out (hall 4 (by decide))
     have q5:=h5.out (hall 5 (by decide))
     have q6:=h6.out (hall 6 (by decide))
     have q7:=h7.out (hall 7 (by decide))
     have q8:=h8.out (hall 8 (by decide))
     have q9:=h9.out (hall 9 (by decide))
     have q10:=h10.out (hall 10 (by decide))
     have q11:=h11.out (hall 11 (by decide))
     have q12:=h12.out (hall 12 (by decide))
     have q13:=h13.out (hall 13 (by decide))
     have q14:=h14.out (hall 14 (by decide))
     clear h0 h1 h2 h3 h4 h5 h6 h7 h8 h9 h10 h11 h12 h13 h14
     simp only [List.drop_succ_cons,List.drop_zero]
     obtain ⟨A3,c3,e14,hown3,hrow3⟩:=q14
     obtain ⟨w3,rfl⟩:∃X,X=W:=⟨_,rfl⟩
     simp only [pfs]
     simp only [q0,e14]
     clear q0 q1 q2 q3 q4 q5 q6 q7 q8 q9 q10 q11 q12 q13 e14 hall
     obtain ⟨_,_,_,hsz,_,hmv,hem,hstep,hsa,hle,hlen⟩:=hst.out
     obtain ⟨hOa,_,_,hO1,hE1,hn1,hL⟩:=hfacts.out
     have hput3:=hput2.out w3 A3 c3 ⟨comeVals (nth (nth dsi tq).ins i).vals (nth (nth dsi fr).outs i) sz,comeLost (nth (nth dsi tq).ins i).vals (nth (nth dsi fr).outs i) (nth (nth dsi tq).ins i).lost sz⟩ (fun b hb=>hS.block b hb) hS.size hown3 hrow3
     rw [show dsi.set tq {nth dsi tq with ins:=(nth dsi tq).ins.set i ⟨comeVals (nth (nth dsi tq).ins i).vals (nth (nth dsi fr).outs i) sz,comeLost (nth (nth dsi tq).ins i).vals (nth (nth dsi fr).outs i) (nth (nth dsi tq).ins i).lost sz⟩} =moveTo c i dsi from by rw [hmv];simp [comeR]] at hput3
     dsimp only at hput3
     have hml:=moveTo_len c i dsi
     rw [← hml] at hput3
     have hS1:=hS.size
     have hbF:∀b,F1 b→B≤b:=fun b hb=>by
      rcases hE1.grow 0 b hb with h1|h1
      ·exact hL.lo b h1
      ·omega
     replace hst:=zH hst
     have hE4:DEff B (fun _=>F1) (fun _ b=>F1 b∨(Wa.heap.size≤b∧b < w3.heap.size)) wr ((w3.setCell ⟨g,i*2,none⟩ (.slice A3 (comeVals (nth (nth dsi tq).ins i).vals (nth (nth dsi fr).outs i) sz).length c3)).setCell ⟨g,i*2+1,none⟩ (.int .i64 (comeLost (nth (nth dsi tq).ins i).vals (nth (nth dsi fr).outs i) (nth (nth dsi tq).ins i).lost sz))):=by
      refine ⟨Below.setCell (Below.setCell ((hEa.mono (by omega)).trans (hS.mono (by omega))) (hbF g hFg) _) (hbF g hFg) _,fun b hb hn=>?_,fun _ b hb=>?_⟩
      ·have hne:b≠g:=fun e=>hn 0 (e ▸ hFg)
       exact heap_set_far (heap_set_far ((hS.block b (by omega)).trans (hEa.block b hb)) hne) hne
      ·rcases hb with hb|hb
       ·exact .inl hb
       ·exact .inr ⟨by omega,by simp;omega⟩
     have hi3:i < (nth (moveTo c i dsi) fr).outs.length:=by rw [hok1.outs _ (by rw [hml];exact hfr2)];exact hlt
     have hF2:∀b,(F1 b∨(Wa.heap.size≤b∧b < w3.heap.size))→b < ((w3.setCell ⟨g,i*2,none⟩ (.slice A3 (comeVals (nth (nth dsi tq).ins i).vals (nth (nth dsi fr).outs i) sz).length c3)).setCell ⟨g,i*2+1,none⟩ (.int .i64 (comeLost (nth (nth dsi tq).ins i).vals (nth (nth dsi fr).outs i) (nth (nth dsi tq).ins i).lost sz))).heap.size:=fun b hb=>by
      simp
      rcases hb with hb|hb
      ·have:=hF1 b hb;omega
      ·omega
     clear hmv hstep hsa hle hlen hOa hO1 hL hsz hem
     replace hput3:=zH hput3
     replace hE4:=zH hE4
     replace hF2:=zH hF2
     replace hml:=zH hml
     replace hE1:=zH hE1
     replace hown3:=zH hown3
     obtain ⟨kr0,kr1⟩:=KR.out w3 hS
     have kf3:=KF.out w3 hS
     clear KO KQ KR KX KC KF HM hput2
     go_upto_region 8 with (fail)
     generalize hW4:(w3.setCell _ _).setCell _ _=W4 at*
     obtain ⟨gd2,go2,no2,Ao2,co2,eA2,hFd2,hgd2,cO2,hFo2,hone2,q02,hfo2,_,hput4⟩:=doms_out hput3.out (by rw [hml.out];exact hfr2) hi3 hF2.out
     obtain rfl:gd=gd2:=by injection eA2 with eA2;injection eA2
     have j8:(i:Int) < (nth (moveTo c i dsi) fr).outs.length:=by omega
     replace hput4:=zH hput4
     clear eA2
     have hLr:Hid (closeOf c sn ds=upTo (closeStep c fr) (c.chans.length - (i+1)) (i+1) (emptyOut c i (moveTo c i dsi))∧(emptyOut c i (moveTo c i dsi)).length=ds.length∧LvW w F B c ⟨some ⟨b1,o1,none⟩,n0,a1,n1,some ⟨b2,o2,none⟩,n2,a3,n3⟩ (some ⟨gd,0,none⟩) n (emptyOut c i (moveTo c i dsi)) (W4.setCell ⟨go2,i,none⟩ (.slice none 0 0))):=by
      obtain ⟨_,_,_,_,_,_,hem,hstep,_,hle,_⟩:=hst.out
      obtain ⟨_,_,_,_,_,_,hL⟩:=hfacts.out
      have h4:=hput4.out
      have hel:(emptyOut c i (moveTo c i dsi)).length=(moveTo c i dsi).length:=by simp [emptyOut]
      refine zH ⟨by rw [hcl.out,upTo_step _ hlt,hstep],by rw [hel,hml.out,hle],hL.turn hE1.out hn1 (F2:=fun b=>F1 b∨(Wa.heap.size≤b∧b < w3.heap.size)) ?_ (hE4.out.trans ⟨Below.setCell (Below.refl _ _) ?_ _,fun b hb hn=>heap_set_far rfl (fun e=>hn 0 (e ▸ hFo2)),fun _ b hb=> .inl hb⟩) (fun b hb=>by simpa using hF2.out b hb) hok2⟩
      ·rw [hel,hem]
       exact h4
      ·show B≤go2
       rcases hFo2 with h1|h1
       ·exact hbF go2 h1
       ·omega
     clear hput4 hput3 hE4 hF2 hst hfacts hE1 hown3
     go_wp2_with fail
     obtain ⟨g1,g2,g3⟩:=hLr.out
     exact ⟨⟨i+1,_,by omega,by go_num,zH g1,g2,g3⟩,by simp [intOf];omega⟩
   ·have hbx1:((nth c.chans i).src==D)=false:=by simp [hx]
    have hstep:closeStep c D i dsi=dsi:=by unfold closeStep;rw [if_neg hx]
    have hE9:Below wr.heap.size wr (wr.alloc (.cells #[.int .i64 (nth c.chans i).src,.int .i64 (nth c.chans i).dst,.int .i64 (nth c.chans i).size] 124)):=byB
    have hL9:LvW w F B c ⟨some ⟨b1,o1,none⟩,n0,a1,n1,some ⟨b2,o2,none⟩,n2,a3,n3⟩ A n dsi (wr.alloc (.cells #[.int .i64 (nth c.chans i).src,.int .i64 (nth c.chans i).dst,.int .i64 (nth c.chans i).size] 124)):=by
     obtain ⟨F1,hO1,hE1,hF1,hn1⟩:=hL.all
     exact hL.turn hE1 hn1 (hO1.keep fun b hb=>hE9.block b (hF1 b hb)) (DEff.ext (by omega) hE9) (fun b hb=>by have:=hF1 b hb;simp;omega) hL.ok
    have hcl2:Hid (closeOf c sn ds=upTo (closeStep c D) (c.chans.length - (i+1)) (i+1) dsi):=zH (by rw [hcl.out,upTo_step _ hlt,hstep])
    clear hL hE9 hstep
    replace hle:=zH hle
    replace hL9:=zH hL9
    go_wp2_with fail
    exact ⟨⟨i+1,dsi,by omega,by go_num,hcl2,hle.out,hL9.out⟩,by simp [intOf];omega⟩
  ·obtain rfl:i=c.chans.length:=by omega
   have hend:closeOf c sn ds=dsi:=by rw [hcl.out];exact upTo_end _ (Nat.le_refl _) _
   rw [← hend] at hL
   replace hL:=zH hL
   clear hle hend
   go_wp2_with fail
   refine bodyPost_end (v:= .tuple #[]) (by simp [results,Tryd.results52,go_sem, *]) rfl ?_
   exact ⟨rfl,hL.out⟩
end Go.Proofs.YtinlmkhlgclbfabDoor
