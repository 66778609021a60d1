/- WinF RegInvT -/
import Derived.Test.YtinlmkhlgclbfabDoorAs19
namespace Go.Proofs.YtinlmkhlgclbfabDoor
open Go.RowKit
section
set_option maxRecDepth 100000
set_option maxHeartbeats 4000000
theorem Kp.turn {gk:Nat}{G:Nat→Nat→Prop}{B:Nat}{w:World}{c:TCfg}{S:TCfgS}{m:Int}{d:TDom}{T:TDomS}(h:Kp gk G B w c S m d T){G':Nat→Nat→Prop}{w':World}{d':TDom}(hD:DomO G' w' d' T)(hgk:w'.heap[gk]?=w.heap[gk]?)(hb:Below B w w')
  (hl:(#[.slice T.a0 d'.jobs.length T.n0,.slice T.a1 d'.released.length T.n1,.int .i64 d'.next,.slice T.a2 d'.ins.length T.n2,.slice T.a3 d'.taken.length T.n3,.slice T.a4 d'.outs.length T.n4,.slice T.a5 d'.events.length T.n5]:Array Value)=#[.slice T.a0 d.jobs.length T.n0,.slice T.a1 d.released.length T.n1,.int .i64 d.next,.slice T.a2 d.ins.length T.n2,.slice T.a3 d.taken.length T.n3,.slice T.a4 d.outs.length T.n4,.slice T.a5 d.events.length T.n5])
  (hgrow:∀i b,G' i b→G i b∨(w.heap.size≤b∧b < w'.heap.size)) (hkeep:∀b,b < w.heap.size→b≠gk→(∀i,¬ G i b)→w'.heap[b]?=w.heap[b]?):Kp gk G' B w' c S m d' T∧KEff gk B G G' w w':=by
 have hz:=(Go.Proofs.YtinlmkhlgclbfabDoor.blk h.blk).2.2
 have hlo:=h.lo
 refine ⟨⟨hgk.trans ?_,h.cfg.keep fun b hb'=>hb.block b hb',hD,fun i b hG=>?_,h.lo⟩,⟨hb,hkeep,hgrow⟩⟩
 ·simp only [Array.mk.injEq,List.cons.injEq,and_true] at hl
  obtain ⟨l0,l1,l2,l3,l4,l5,l6⟩:=hl
  rw [l0,l1,l2,l3,l4,l5,l6]
  exact h.blk
 ·rcases hgrow i b hG with h1|h1
  ·exact h.apart i b h1
  ·omega
section
variable {gr gk : Nat} {G : Nat → Nat → Prop} {F : Nat → Prop} {B : Nat} {w : World} {c : TCfg} {S : TCfgS} {m : Int} {d : TDom} {T : TDomS} {k : List (List TWay)} {Ak : Option Addr} {nk : Nat} {l : List TAct} {Al : Option Addr} {nl : Nat} {now to_ : Int}
def RetRn (gr gk:Nat) (G:Nat→Nat→Prop) (F:Nat→Prop) (B:Nat) (w:World) (c:TCfg) (S:TCfgS) (m:Int) (d:TDom) (A0:Option Addr) (k:List (List TWay)) (Ak:Option Addr) (nk:Nat) (l:List TAct) (Al:Option Addr) (nl:Nat) (now to_:Int) (e:Ending) (w':World):Prop:=
 e= .returned (.tuple #[])∧∃G' T',T'.a0=A0∧Rn gr gk G' F B w' c S m d T' k Ak nk l Al nl now to_∧REff gr gk B F G G' w w'
theorem RetRn.from {G1:Nat→Nat→Prop}{w1 w':World}{e:Ending}{A0:Option Addr}(h:RetRn gr gk G1 F B w1 c S m d A0 k Ak nk l Al nl now to_ e w')(hE:REff gr gk B F G G1 w w1):RetRn gr gk G F B w c S m d A0 k Ak nk l Al nl now to_ e w':=by
 obtain ⟨he,G',T',h0,h1,h2⟩:=h
 exact ⟨he,G',T',h0,h1,hE.trans h2⟩
theorem runnerTell (h:Rn gr gk G F B w c S m d T k Ak nk l Al nl now to_)(t kd x y:Int)(hn:d.events.length+1≤4398046511104):
  Calls Tryd.prog 82 #[.pointer (some ⟨gk,0,none⟩),.int .i64 t,.int .i64 kd,.int .i64 x,.int .i64 y] w (RetRn gr gk G F B w c S m (tellOf d t kd x y) T.a0 k Ak nk l Al nl now to_):=by
 refine (keeperTell gk G B w c S m d T h.kp t kd x y hn).mono ?_
 rintro e w' ⟨A,n,rfl,hK,hE⟩
 exact ⟨rfl,_, {T with a5:=A,n5:=n},rfl,h.keeper hK hE,hE.run⟩
theorem REff.fresh {G':Nat→Nat→Prop}(h:Rn gr gk G F B w c S m d T k Ak nk l Al nl now to_){W w':World}(hs:w.heap.size≤W.heap.size)(hE:REff gr gk B F G G' W w'){b:Nat}(h1:w.heap.size≤b)(h2:b < W.heap.size):w'.heap[b]?=W.heap[b]?:=by
 have z1:=(blk h.blk).2.2
 have z2:=(blk h.kp.blk).2.2
 refine hE.keep b h2 (by omega) (by omega) (fun i hi=>?_) fun hf=>?_
 ·have:=h.kp.dom.lt i b hi;omega
 ·have:=(h.grF b hf).2.2.2;omega
theorem Rn.taken (h:Rn gr gk G F B w c S m d T k Ak nk l Al nl now to_){i:Nat}(hi:i < d.taken.length):∃g,T.a3=some ⟨g,0,none⟩∧g < w.heap.size∧w.cell? ⟨g,i,none⟩=some (.int .i64 (nth d.taken i))∧(∀o,w.frozen? ⟨g,o,none⟩=false)∧
  ∀x:Int,Rn gr gk G F B (w.setCell ⟨g,i,none⟩ (.int .i64 x)) c S m {d with taken:=d.taken.set i x} T k Ak nk l Al nl now to_∧REff gr gk B F G G w (w.setCell ⟨g,i,none⟩ (.int .i64 x)):=by
 obtain ⟨g,e,hG,hg,hc,hf,hset⟩:=h.kp.dom.taken hi
 have hap:=h.kp.apart 3 g hG
 refine ⟨g,e,hg,hc,hf,fun x=>?_⟩
 have hk:∀b,b≠g→(w.setCell ⟨g,i,none⟩ (.int .i64 x)).heap[b]?=w.heap[b]?:=fun b hb=>Below.heap_setCell _ _ _ _ hb
 obtain ⟨h1,h2⟩:=h.kp.turn (hset x) (hk gk (Ne.symm hap.1)) (Below.setCell (Below.refl _ _) hap.2 _) (by simp) (fun _ _ h=> .inl h) fun b _ _ hn=>hk b fun e=>hn 3 (e ▸ hG)
 exact ⟨h.keeper h1 h2,h2.run⟩
theorem runnerTell_from (h:Rn gr gk G F B w c S m d T k Ak nk l Al nl now to_){W:World}(hb:Below w.heap.size w W)(t kd x y:Int)(hn:d.events.length+1≤4398046511104):
  Calls Tryd.prog 82 #[.pointer (some ⟨gk,0,none⟩),.int .i64 t,.int .i64 kd,.int .i64 x,.int .i64 y] W fun e w'=>RetRn gr gk G F B w c S m (tellOf d t kd x y) T.a0 k Ak nk l Al nl now to_ e w'∧∀b,w.heap.size≤b→b < W.heap.size→w'.heap[b]?=W.heap[b]?:=
 (runnerTell (h.ext hb) t kd x y hn).mono fun e w' hr=>⟨hr.from (REff.ext h.hB hb),fun b h1 h2=>by obtain ⟨_,G',T',_,_,hE⟩:=hr;exact hE.fresh h hb.size h1 h2⟩
theorem runnerHappen_tell (h:Rn gr gk G F B w c S m d T k Ak nk l Al nl now to_)(a:TAct)(ha:ActOk a)(cost:Int)(hk:a.kind≤3)(hn:d.events.length+1≤4398046511104):
  Calls Tryd.prog 88 #[.pointer (some ⟨gr,0,none⟩),.agg #[.int .i64 a.kind,.int .i64 a.n,.int .i64 a.value],.int .i64 cost] w (RetRn gr gk G F B w c S m (happenA c now a cost d) T.a0 k Ak nk l Al nl now to_):=by
 have HT:=zH (fun W (hb:Below w.heap.size w W) t kd x y=>runnerTell_from h hb t kd x y hn)
 have e0:happenA c now a cost d=tellOf d now 11 cost 0:=by unfold happenA;rw [if_pos hk]
 rw [e0]
 obtain ⟨kd,nm,v⟩:=a
 have h1:=ha.kind.1
 dsimp only at hk h1⊢
 have hbk:=h.blk
 obtain ⟨cb,fb,zb⟩:=blk hbk
 clear h ha e0
 have hkd:kd=1∨kd=2∨kd=3:=by omega
 clear hk h1
 rcases hkd with rfl|rfl|rfl
 ·go_enter Tryd.func88,Tryd.ntmps88
  go_wp2_with fail
  generalize hW1:w.alloc (.cells #[.int .i64 1,.int .i64 nm,.int .i64 v] 52)=W1;have hb1:Below w.heap.size w W1:=(by rw [← hW1];exact byB);obtain ⟨cb1,fb1,zb1⟩:=blk ((hb1.block _ zb).trans hbk);obtain ⟨cx1,fx1,zx1⟩:=blk (show W1.heap[w.heap.size]?=some (.cells #[.int .i64 1,.int .i64 nm,.int .i64 v] 52 (0,0)) by rw [← hW1];exact heap_alloc_new _ _);clear hW1
  (refine wp_region_still_tail 9 (by kernel_rfl) (by kernel_rfl) ?_;simp only [List.take_succ_cons,List.take_zero,List.drop_succ_cons,List.drop_zero];(iterate 9 (with_reducible refine wpStill_step (fun K hK=>?_);replace hK:=zH hK;go_simp;with_reducible refine hK.out _ ?_;clear hK K));refine wpStill_nil ?_)
  go_wp2_with fail
  go_at_call 82
  refine (HT.out _ byB _ _ _ _).mono ?_
  rintro e w1 ⟨⟨rfl,hr⟩,-⟩
  replace hr:=zH hr
  go_wp2_with fail
  refine bodyPost_end (v:= .tuple #[]) (by simp [results,Tryd.results88,go_sem, *]) rfl ?_
  exact ⟨rfl,hr.out⟩
 ·go_enter Tryd.func88,Tryd.ntmps88
  go_wp2_with fail
  generalize hW1:w.alloc (.cells #[.int .i64 2,.int .i64 nm,.int .i64 v] 52)=W1;have hb1:Below w.heap.size w W1:=(by rw [← hW1];exact byB);obtain ⟨cb1,fb1,zb1⟩:=blk ((hb1.block _ zb).trans hbk);obtain ⟨cx1,fx1,zx1⟩:=blk (show W1.heap[w.heap.size]?=some (.cells #[.int .i64 2,.int .i64 nm,.int .i64 v] 52 (0,0)) by rw [← hW1];exact heap_alloc_new _ _);clear hW1
  (refine wp_region_still_tail 9 (by kernel_rfl) (by kernel_rfl) ?_;simp only [List.take_succ_cons,List.take_zero,List.drop_succ_cons,List.drop_zero];(iterate 9 (with_reducible refine wpStill_step (fun K hK=>?_);replace hK:=zH hK;go_simp;with_reducible refine hK.out _ ?_;clear hK K));refine wpStill_nil ?_)
  go_wp2_with fail
  go_at_call 82
  refine (HT.out _ byB _ _ _ _).mono ?_
  rintro e w1 ⟨⟨rfl,hr⟩,-⟩
  replace hr:=zH hr
  go_wp2_with fail
  refine bodyPost_end (v:= .tuple #[]) (by simp [results,Tryd.results88,go_sem, *]) rfl ?_
  exact ⟨rfl,hr.out⟩
 ·go_enter Tryd.func88,Tryd.ntmps88
  go_wp2_with fail
  generalize hW1:w.alloc (.cells #[.int .i64 3,.int .i64 nm,.int .i64 v] 52)=W1;have hb1:Below w.heap.size w W1:=(by rw [← hW1];exact byB);obtain ⟨cb1,fb1,zb1⟩:=blk ((hb1.block _ zb).trans hbk);obtain ⟨cx1,fx1,zx1⟩:=blk (show W1.heap[w.heap.size]?=some (.cells #[.int .i64 3,.int .i64 nm,.int .i64 v] 52 (0,0)) by rw [← hW1];exact heap_alloc_new _ _);clear hW1
  (refine wp_region_still_tail 9 (by kernel_rfl) (by kernel_rfl) ?_;simp only [List.take_succ_cons,List.take_zero,List.drop_succ_cons,List.drop_zero];(iterate 9 (with_reducible refine wpStill_step (fun K hK=>?_);replace hK:=zH hK;go_simp;with_reducible refine hK.out _ ?_;clear hK K));refine wpStill_nil ?_)
  go_wp2_with fail
  go_at_call 82
  refine (HT.out _ byB _ _ _ _).mono ?_
  rintro e w1 ⟨⟨rfl,hr⟩,-⟩
  replace hr:=zH hr
  go_wp2_with fail
  refine bodyPost_end (v:= .tuple #[]) (by simp [results,Tryd.results88,go_sem, *]) rfl ?_
  exact ⟨rfl,hr.out⟩
theorem runnerHappen_six (h:Rn gr gk G F B w c S m d T k Ak nk l Al nl now to_)(a:TAct)(ha:ActOk a)(cost:Int)(hk:a.kind=6)(hq:0 < c.quantum)(h0:0≤now)(h63:now≤1000000)(hn:d.events.length+1≤4398046511104):
  Calls Tryd.prog 88 #[.pointer (some ⟨gr,0,none⟩),.agg #[.int .i64 a.kind,.int .i64 a.n,.int .i64 a.value],.int .i64 cost] w (RetRn gr gk G F B w c S m (happenA c now a cost d) T.a0 k Ak nk l Al nl now to_):=by
 have HT:=zH (fun W (hb:Below w.heap.size w W) t kd x y=>runnerTell_from h hb t kd x y hn)
 have e0:happenA c now a cost d=tellOf d now 7 (now - now % c.quantum) 0:=by unfold happenA;rw [if_neg (by omega),if_neg (by omega),if_neg (by omega),if_pos hk]
 rw [e0]
 obtain ⟨kd,nm,v⟩:=a
 dsimp only at hk⊢
 subst hk
 have hbk:=h.blk
 have hkk:=h.kp.blk
 obtain ⟨cb,fb,zb⟩:=blk hbk
 obtain ⟨ck,fk,zk⟩:=blk hkk
 have q1:(c.quantum==0)=false:=by simp;omega
 have q0:¬ c.quantum=0:=by omega
 have q2:Int.tmod now c.quantum=now % c.quantum:=Int.tmod_eq_emod_of_nonneg h0
 have q3:=Int.emod_nonneg now (show c.quantum≠0 by omega)
 have q4:now % c.quantum≤now:=by have h5:=Int.mul_ediv_add_emod now c.quantum;have h6:=Int.mul_nonneg (Int.le_of_lt hq) (Int.ediv_nonneg h0 (Int.le_of_lt hq));omega
 clear h ha e0
 go_enter Tryd.func88,Tryd.ntmps88
 go_wp2_with fail
 generalize hW1:w.alloc (.cells #[.int .i64 6,.int .i64 nm,.int .i64 v] 52)=W1;have hb1:Below w.heap.size w W1:=(by rw [← hW1];exact byB);obtain ⟨cb1,fb1,zb1⟩:=blk ((hb1.block _ zb).trans hbk);obtain ⟨cx1,fx1,zx1⟩:=blk (show W1.heap[w.heap.size]?=some (.cells #[.int .i64 6,.int .i64 nm,.int .i64 v] 52 (0,0)) by rw [← hW1];exact heap_alloc_new _ _);clear hW1
 obtain ⟨ck1,fk1,zk1⟩:=blk ((hb1.block _ zk).trans hkk)
 (refine wp_region_still_tail 26 (by kernel_rfl) (by kernel_rfl) ?_;simp only [List.take_succ_cons,List.take_zero,List.drop_succ_cons,List.drop_zero];(iterate 26 (with_reducible refine wpStill_step (fun K hK=>?_);replace hK:=zH hK;go_simp;with_reducible refine hK.out _ ?_;clear hK K));refine wpStill_nil ?_)
 go_wp2_with fail
 go_at_call 82
 refine (HT.out _ byB _ _ _ _).mono ?_
 rintro e w1 ⟨⟨rfl,hr⟩,-⟩
 replace hr:=zH hr
 go_wp2_with fail
 refine bodyPost_end (v:= .tuple #[]) (by simp [results,Tryd.results88,go_sem, *]) rfl ?_
 exact ⟨rfl,hr.out⟩
theorem runnerHappen_eight (h:Rn gr gk G F B w c S m d T k Ak nk l Al nl now to_)(a:TAct)(ha:ActOk a)(cost:Int)(hk:a.kind=8):
  Calls Tryd.prog 88 #[.pointer (some ⟨gr,0,none⟩),.agg #[.int .i64 a.kind,.int .i64 a.n,.int .i64 a.value],.int .i64 cost] w (RetRn gr gk G F B w c S m (happenA c now a cost d) T.a0 k Ak nk l Al nl now to_):=by
 have e0:happenA c now a cost d=d:=by unfold happenA;rw [if_neg (by omega),if_neg (by omega),if_neg (by omega),if_neg (by omega),if_neg (by omega)]
 rw [e0]
 obtain ⟨kd,nm,v⟩:=a
 dsimp only at hk⊢
 subst hk
 have HE:=zH (fun W (hb:Below w.heap.size w W)=>(⟨_,T,rfl,h.ext hb,REff.ext h.hB hb⟩:∃G' T',T'.a0=T.a0∧Rn gr gk G' F B W c S m d T' k Ak nk l Al nl now to_∧REff gr gk B F G G' w W))
 clear h ha e0
 go_enter Tryd.func88,Tryd.ntmps88
 go_wp2_with fail
 refine bodyPost_end (v:= .tuple #[]) (by simp [results,Tryd.results88,go_sem, *]) rfl ?_
 exact ⟨rfl,HE.out _ byB⟩
theorem runnerHappen_seven (h:Rn gr gk G F B w c S m d T k Ak nk l Al nl now to_)(a:TAct)(ha:ActOk a)(cost:Int)(hk:a.kind=7)(hlt:a.n.toNat < d.taken.length)(hn:d.events.length+1≤4398046511104):
  Calls Tryd.prog 88 #[.pointer (some ⟨gr,0,none⟩),.agg #[.int .i64 a.kind,.int .i64 a.n,.int .i64 a.value],.int .i64 cost] w (RetRn gr gk G F B w c S m (happenA c now a cost d) T.a0 k Ak nk l Al nl now to_):=by
 have HT:=zH (fun W (hb:Below w.heap.size w W) t kd x y=>runnerTell_from h hb t kd x y hn)
 obtain ⟨kd,nm,v⟩:=a
 have h0:=ha.name (.inr (.inr hk))
 dsimp only at hk h0 hlt
 subst hk
 obtain ⟨i,rfl⟩:=Int.eq_ofNat_of_zero_le h0
 dsimp only at hlt⊢
 rw [Int.toNat_natCast] at hlt
 have e0:happenA c now ⟨7,i,v⟩ cost d= {tellOf d now 10 i (nth d.taken i) with taken:=d.taken.set i 0} :=by unfold happenA;simp
 rw [e0]
 have hbk:=h.blk
 have hkk:=h.kp.blk
 obtain ⟨gt,et,hGt,hgt,ct,ft,_⟩:=h.kp.dom.taken hlt
 rw [et] at hkk
 obtain ⟨cb,fb,zb⟩:=blk hbk
 obtain ⟨ck,fk,zk⟩:=blk hkk
 have i0:(0:Int)≤i:=by omega
 have i1:(i:Int) < d.taken.length:=by omega
 clear h ha e0 et h0
 go_enter Tryd.func88,Tryd.ntmps88
 go_wp2_with fail
 generalize hW1:w.alloc (.cells #[.int .i64 7,.int .i64 i,.int .i64 v] 52)=W1
 have hb1:Below w.heap.size w W1:=(by rw [← hW1];exact byB)
 obtain ⟨cb1,fb1,zb1⟩:=blk ((hb1.block _ zb).trans hbk)
 obtain ⟨ck1,fk1,zk1⟩:=blk ((hb1.block _ zk).trans hkk)
 have hx1:W1.heap[w.heap.size]?=some (.cells #[.int .i64 7,.int .i64 i,.int .i64 v] 52 (0,0)):=by rw [← hW1];exact heap_alloc_new _ _
 obtain ⟨cx1,fx1,zx1⟩:=blk hx1
 have ct1:=(Below.cell (p:=⟨gt,i,none⟩) hb1 hgt).trans ct
 clear hW1
 (refine wp_region_still_tail 22 (by kernel_rfl) (by kernel_rfl) ?_;simp only [List.take_succ_cons,List.take_zero,List.drop_succ_cons,List.drop_zero];(iterate 22 (with_reducible refine wpStill_step (fun K hK=>?_);replace hK:=zH hK;go_simp;with_reducible refine hK.out _ ?_;clear hK K));refine wpStill_nil ?_)
 go_wp2_with fail
 go_at_call 82
 refine (HT.out _ byB _ _ _ _).mono ?_
 rintro e w1 ⟨⟨rfl,G1,T1,hA1,hR,hE⟩,hnew⟩
 replace hA1:=zH hA1
 have hdr:Below w1.heap.size w1 w1.drew:=Below.drew (Below.refl _ _)
 obtain ⟨gt2,et2,hgt2,ct2,ft2,hset⟩:=(hR.ext hdr).taken (i:=i) hlt
 have hF:=zH (hset 0)
 have hE':=zH (hE.trans (REff.ext hR.hB hdr))
 have hbk2:=hR.blk
 have hkk2:=hR.kp.blk
 rw [et2] at hkk2
 obtain ⟨cb2,fb2,zb2⟩:=blk hbk2
 obtain ⟨ck2,fk2,zk2⟩:=blk hkk2
 obtain ⟨cx2,fx2,zx2⟩:=blk ((hnew _ (Nat.le_refl _) (by simpa using zx1)).trans hx1)
 have l1:(tellOf d now 10 i (nth d.taken i)).taken.length=d.taken.length:=rfl
 have i2:(i:Int) < (tellOf d now 10 i (nth d.taken i)).taken.length:=i1
 clear hR hE hnew hset et2 hbk2 hkk2 HT hdr
 go_wp2_with fail
 (refine wp_region_still_tail 11 (by kernel_rfl) (by kernel_rfl) ?_;simp only [List.take_succ_cons,List.take_zero,List.drop_succ_cons,List.drop_zero];(iterate 11 (with_reducible refine wpStill_step (fun K hK=>?_);replace hK:=zH hK;go_simp;with_reducible refine hK.out _ ?_;clear hK K));refine wpStill_nil ?_)
 go_wp2_with fail
 refine bodyPost_end (v:= .tuple #[]) (by simp [results,Tryd.results88,go_sem, *]) rfl ?_
 exact ⟨rfl,G1,T1,hA1.out,hF.out.1,hE'.out.trans hF.out.2⟩
end
end
section
def tailB (ops:Array Oper) (n:Nat):Bool:=
 decide (n≤ops.size)&&((List.range ops.size).all fun j=>decide (j < n)||(List.range n).all fun i=>Region.waitsFor .any ops j i)&&
 Region.seqB .any ops (ops.size - n) n ((List.replicate n true++List.replicate (ops.size - n) false).toArray)
section
variable {P : Program} {ops : Array Oper} {Q : Exit → Act → World → Prop}
theorem wpAny_invT {n:Nat}{R:Array Bool→(Nat→Value)→World→Prop}{a:Act}{sl:List Nat}(hnd:sl.Nodup)(ht:topoB ops=true)(hB:tailB ops n=true)
  (hs:StepsI P ops Q R a sl (List.range n))
  (he:∀l f w,R l f w→(∀i,i < n→Lst l i)→wpList P ops Q (ops.toList.drop n) (putF a sl f) w):
  ∀fuel (l:Array Bool) (f:Nat→Value) (w:World),l.size=ops.size→l.toList.count false=fuel→(∀t,n≤t→¬ Lst l t)→R l f w→wpAny P .any ops Q fuel l (putF a sl f) w:=by
 unfold tailB at hB
 simp only [Bool.and_eq_true,decide_eq_true_eq] at hB
 obtain ⟨⟨hn,hw⟩,hq⟩:=hB
 intro fuel
 induction fuel with
 |zero=>
  intro l f w hz hc hno hR
  have hall:∀i,i < ops.size→Lst l i:=by
   intro i hi
   have hi':i < l.size:=by omega
   rw [List.count_eq_zero] at hc
   unfold Lst
   simp [Array.getD,hi']
   cases hb:l[i] with
   |true=>rfl
   |false=>exact absurd (by rw [← hb];simp) hc
  have hn':n=ops.size:=by
   rcases Nat.lt_or_ge n ops.size with h|h
   ·exact absurd (hall n h) (hno n (Nat.le_refl _))
   ·omega
  have h:=he l f w hR fun i hi=>hall i (by omega)
  rw [List.drop_of_length_le (by simp;omega)] at h
  refine ⟨?_,h⟩
  refine List.eq_nil_iff_forall_not_mem.2 fun i hi=>?_
  obtain ⟨o,ho,hnl,_⟩:=ready_iff hz hi
  exact hnl (hall i (Array.getElem?_eq_some_iff.1 ho).1)
 |succ fuel ih=>
  intro l f w hz hc hno hR
  by_cases hall:∀i,i < n→Lst l i
  ·have hl:l=(List.replicate n true++List.replicate (ops.size - n) false).toArray:=by
    refine Array.ext (by simp;omega) fun i h1 h2=>?_
    simp only [List.getElem_toArray]
    by_cases e:i < n
    ·rw [List.getElem_append_left (by simpa using e)]
     have:=hall i e
     unfold Lst at this
     simp [Array.getD,h1] at this
     simp [this]
    ·rw [List.getElem_append_right (by simpa using e)]
     have:=hno i (by omega)
     unfold Lst at this
     simp [Array.getD,h1] at this
     simp [this]
   have hcnt:fuel+1=(ops.toList.drop n).length:=by
    rw [← hc,hl]
    simp [List.count_append,List.count_replicate]
   rw [hcnt]
   refine wpAny_of_seq (ops.toList.drop n) n l _ w (fun j=>by simp) ?_ (he l f w hR hall)
   rw [hl]
   simpa using hq
  ·refine ⟨fun hr=>absurd (fun i hi=>ready_nil hz ht hr i (by omega)) hall,fun i hi=>?_⟩
   obtain ⟨o,ho,hnl,hb⟩:=ready_iff hz hi
   have hlt:=(Array.getElem?_eq_some_iff.1 ho).1
   have hin:i < n:=by
    refine Classical.byContradiction fun hge=>hall fun k hk=>?_
    have h1:=List.all_eq_true.1 hw i (List.mem_range.2 hlt)
    simp only [Bool.or_eq_true,decide_eq_true_eq] at h1
    rcases h1 with h1|h1
    ·exact absurd h1 hge
    ·have h2:=List.all_eq_true.1 h1 k (List.mem_range.2 hk)
     obtain ⟨o',ho',e,he',hb',hon⟩:=Region.waitsFor_spec h2
     rw [ho] at ho'
     injection ho' with ho'
     subst ho'
     refine hb k ?_
     unfold befores
     simp only [List.mem_map,List.mem_filter]
     exact ⟨e,⟨by simpa using he',hb'⟩,hon⟩
   obtain ⟨hd,hwp⟩:=hs i (List.mem_range.2 hin) o ho l f w hR hnl hb
   refine wpOp_mono (fun a' w' h=>?_) hwp
   obtain ⟨v,rfl,hR'⟩:=h
   have hl':l.toList[i]?=some false:=by
    have h2:i < l.size:=by omega
    unfold Lst at hnl
    simp [Array.getD,h2] at hnl
    simp [h2,hnl]
   have hc':(l.setIfInBounds i true).toList.count false=fuel:=by
    rw [Array.toList_setIfInBounds]
    have:=count_set l.toList i hl'
    omega
   have hno':∀t,n≤t→¬ Lst (l.setIfInBounds i true) t:=fun t h1 h2=>hno t h1 (h2.back (by omega))
   cases hdst:o.dst with
   |none=>
    rw [hdst] at hR'
    rw [put_none]
    have:upd f none v=f:=by funext k;simp [upd]
    rw [this] at hR'
    exact ih _ f w' (by simpa using hz) hc' hno' hR'
   |some d=>
    rw [hdst] at hR'
    rw [putF_put a f d v sl hnd (hd d hdst)]
    exact ih _ _ w' (by simpa using hz) hc' hno' hR'
theorem wp_region_invT {id:Nat}{a:Act}{w:World}{lo:List Oper}(n:Nat)(sl:List Nat)(R:Array Bool→(Nat→Value)→World→Prop)(hm:P.follows .mixedOrders=true)(hnd:sl.Nodup)(ht:topoB lo.toArray=true)(hB:tailB lo.toArray n=true)(hsz:∀s∈sl,s < a.tmps.size)
  (h0:∀l,l.size=lo.length→(∀i,¬ Lst l i)→R l (fun s=>a.tmps.getD s undef) w.drew) (hs:StepsL P R a sl 0 (lo.take n))
  (he:∀l f w,R l f w→(∀i,i < n→Lst l i)→wpList P lo.toArray Q (lo.drop n) (putF a sl f) w):(Code.region id lo.toArray true).wp P Q a w:=by
 refine wp_region_any hm ?_
 have hn:n≤lo.length:=by
  unfold tailB at hB
  simp only [Bool.and_eq_true,decide_eq_true_eq] at hB
  simpa using hB.1.1
 have hS:StepsI P lo.toArray Q R a sl (List.range n):=by
  intro i hi o ho l f w hR hnl hb
  have hin:=List.mem_range.1 hi
  have ho':(lo.take n)[i]?=some o:=by rw [List.getElem?_take_of_lt hin];simpa using ho
  obtain ⟨hd,h⟩:=StepsL.at (lo.take n) 0 hs i o ho'
  rw [Nat.zero_add] at h
  refine ⟨hd,wpOp_step ho (fun K' hK=>?_)⟩
  obtain ⟨hg,hw⟩:=h l f w hR hnl hb K' Q (zH fun v w' hR'=>hK _ _ ⟨v,rfl,hR'⟩)
  have hwt:Region.wanted o (yielded lo.toArray (putF a sl f).tmps)=true:=by simp [Region.wanted,hg]
  rw [if_pos hwt]
  exact hw
 have hno:∀i,¬ Lst (Array.replicate lo.toArray.size false) i:=fun i=>by unfold Lst;rw [Array.getD_eq_getD_getElem?,Array.getElem?_replicate];split<;>simp
 have h:=wpAny_invT (P:=P) (Q:=Q) hnd ht hB hS (fun l f w hR hall=>he l f w hR hall) lo.toArray.size (Array.replicate lo.toArray.size false) (fun s=>a.tmps.getD s undef) w.drew (by simp) (by simp) (fun t _=>hno t) (h0 _ (by simp) hno)
 rw [putF_self a sl hsz] at h
 exact h
end
end
end Go.Proofs.YtinlmkhlgclbfabDoor
