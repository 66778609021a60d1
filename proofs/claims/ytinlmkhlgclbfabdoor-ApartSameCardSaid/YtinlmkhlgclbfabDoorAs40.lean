/- SlotS to ReachP -/
import Derived.Test.YtinlmkhlgclbfabDoorAs37
import Derived.Test.YtinlmkhlgclbfabDoorAs39
namespace Go.Proofs.YtinlmkhlgclbfabDoor
open Go.RowKit
section
set_option maxRecDepth 100000
set_option maxHeartbeats 4000000
def execDs (c:TCfg) (sc:TScr):List TDom:=if checkScript c sc=0 then (machOf c sc).ds else []
def execMost (c:TCfg) (sc:TScr):Int:=if checkScript c sc=0 then (machOf c sc).most else 0
def RetDomsN (ds:List TDom) (m err:Int) (w:World) (e:Ending) (w':World):Prop:=∃A n,e= .returned (.tuple #[.slice A ds.length n,.int .i64 m,.int .i64 err])∧DomsO (Rng w.heap.size w'.heap.size) w' (.slice A ds.length n) ds∧Below w.heap.size w w'
theorem execRun (c:TCfg)(S:TCfgS)(sc:TScr)(Z:TScrS)(B:Nat)(w:World)(hB:B≤w.heap.size)(hs:TCfg.At (Low B) w c S)(hz:TScr.At (Low B) w sc Z):
  Calls Tryd.prog 7 #[.agg #[.int .i64 c.sets,.int .i64 c.ways,.int .i64 c.doms,.int .i64 c.pad,.int .i64 c.quantum,.slice S.a0 c.slots.length S.n0,.slice S.a1 c.owners.length S.n1,.slice S.a2 c.chans.length S.n2,.slice S.a3 c.tasks.length S.n3],.agg #[.slice Z.a0 sc.actions.length Z.n0,.slice Z.a1 sc.arrivals.length Z.n1,.int .i64 sc.rounds]] w (RetDomsN (execDs c sc) (execMost c sc) (checkScript c sc) w):=by
 have H1:=zH (fun W (h:Below w.heap.size w W)=>execCheck c S sc Z B W (Nat.le_trans hB h.size) (hs.next hB h) (hz.next hB h))
 unfold execDs execMost
 by_cases e1:checkScript c sc=0
 ·have hok:=checkScript_ok e1
  rw [if_pos e1,if_pos e1,e1]
  rw [e1] at H1
  have H2:=zH (fun W (h:Below w.heap.size w W)=>execNew c S sc Z hok.cfg B W (Nat.le_trans hB h.size) (hs.next hB h) (hz.next hB h))
  clear e1
  go_enter Tryd.func7,Tryd.ntmps7
  go_wp2_with fail
  (go_at_call 16;refine (H1.out _ byB).mono ?_;rintro e w1 ⟨rfl,hb_w1⟩;refine kbb (show w1.heap[w.heap.size]?=some (.cells #[.int .i64 c.sets,.int .i64 c.ways,.int .i64 c.doms,.int .i64 c.pad,.int .i64 c.quantum,.slice S.a0 c.slots.length S.n0,.slice S.a1 c.owners.length S.n1,.slice S.a2 c.chans.length S.n2,.slice S.a3 c.tasks.length S.n3] 27) from (hb_w1.block _ byS).trans byH) (fun c_w1 cc_w1 fc_w1 zc_w1=>?_);refine kbb (show w1.heap[w.heap.size+1]?=some (.cells #[.slice Z.a0 sc.actions.length Z.n0,.slice Z.a1 sc.arrivals.length Z.n1,.int .i64 sc.rounds] 31) from (hb_w1.block _ byS).trans byH) (fun z_w1 cz_w1 fz_w1 zz_w1=>?_);refine armT w hb_w1 (fun h_w1 s_w1 t_w1 hb_w1=>?_);(try simp at t_w1))
  go_wp2_with fail
  go_at_call 17
  refine (H2.out _ byB).mono ?_
  rintro e w2 ⟨gm,F,FL,FK,A,n,Al,nl,Ak,nk,rfl,hM,hg,hF,hb2⟩
  have hb02:Below w.heap.size w w2:=byB
  have hz2:=hb02.size
  have hzz:=h_w1.size
  have HR:=execRunM B c S sc Z hok gm F FL FK A n Al nl Ak nk w2 hM
  clear H1 H2
  go_wp2_with fail
  go_at_call 18
  refine HR.mono ?_
  rintro e w3 ⟨rfl,F3,FK3,Ak3,nk3,hM3,hE3,hF3⟩
  have hb3:Below w.heap.size w w3:=hb02.trans (hE3.low (by omega) fun b hb=>by
   rcases hb with hb|hb
   ·omega
   ·have:=hF b hb;omega)
  have hO:DomsO (Rng w.heap.size w3.heap.size) w3 (.slice A (machOf c sc).ds.length n) (machOf c sc).ds:=OZl.mono hM3.dom fun b hb=>⟨by
   rcases hF3 b (.inl hb) with e|e|e
   ·have:=hF b (.inl e);omega
   ·have:=hF b (.inr (.inr e));omega
   ·omega,(hM3.fp b (.inl hb)).2.1⟩
  obtain ⟨cm,fm,zm⟩:=blk hM3.blk
  clear HR hM3 hM hE3
  go_wp2_with fail
  refine bodyPost_ret (v:= .tuple #[.slice A (machOf c sc).ds.length n,.int .i64 (machOf c sc).most,.int .i64 0]) (by simp [results,Tryd.results7,go_sem, *]) rfl ?_
  exact ⟨A,n,rfl,hO,hb3⟩
 ·rw [if_neg e1,if_neg e1]
  have b1:(checkScript c sc !=0)=true:=by simp [e1]
  clear e1
  generalize checkScript c sc=CE at*
  go_enter Tryd.func7,Tryd.ntmps7
  go_wp2_with fail
  (go_at_call 16;refine (H1.out _ byB).mono ?_;rintro e w1 ⟨rfl,hb_w1⟩;refine kbb (show w1.heap[w.heap.size]?=some (.cells #[.int .i64 c.sets,.int .i64 c.ways,.int .i64 c.doms,.int .i64 c.pad,.int .i64 c.quantum,.slice S.a0 c.slots.length S.n0,.slice S.a1 c.owners.length S.n1,.slice S.a2 c.chans.length S.n2,.slice S.a3 c.tasks.length S.n3] 27) from (hb_w1.block _ byS).trans byH) (fun c_w1 cc_w1 fc_w1 zc_w1=>?_);refine kbb (show w1.heap[w.heap.size+1]?=some (.cells #[.slice Z.a0 sc.actions.length Z.n0,.slice Z.a1 sc.arrivals.length Z.n1,.int .i64 sc.rounds] 31) from (hb_w1.block _ byS).trans byH) (fun z_w1 cz_w1 fz_w1 zz_w1=>?_);refine armT w hb_w1 (fun h_w1 s_w1 t_w1 hb_w1=>?_);(try simp at t_w1))
  go_wp2_with fail
  refine bodyPost_ret (v:= .tuple #[.slice none 0 0,.int .i64 0,.int .i64 CE]) (by simp [results,Tryd.results7,go_sem, *]) rfl ?_
  exact ⟨none,0,rfl,OZl.nil _ _ _ _,h_w1⟩
end
section
def readyErr (c:TCfg) (sc:TScr) (d:Int):Int:=if checkScript c sc≠0 then checkScript c sc else if isDom c.doms d=true then 0 else 5
theorem readyErr_ok {c:TCfg}{sc:TScr}{d:Int}(h:readyErr c sc d=0):ScrOk c sc∧0≤d∧d < c.doms:=by
 unfold readyErr at h
 split at h
 ·rename_i h1;exact absurd h h1
 ·rename_i h1
  split at h
  ·rename_i h2;exact ⟨checkScript_ok (by simpa using h1),isDom_true.1 h2⟩
  ·cases h
theorem flat_at {T:Type}{k:Nat}{f:T→List Value}(hf:∀x,(f x).length=k):∀(l:List T) (q r:Nat) (hq:q < l.length),r < k→(l.flatMap f)[q*k+r]?=(f l[q])[r]?:=by
 intro l
 induction l with
 |nil=>intro q r hq;simp at hq
 |cons x l ih=>
  intro q r hq hr
  cases q with
  |zero=>simp only [List.flatMap_cons,Nat.zero_mul,Nat.zero_add,List.getElem_cons_zero];rw [List.getElem?_append_left (by rw [hf];exact hr)]
  |succ q=>
   simp only [List.flatMap_cons,List.getElem_cons_succ]
   rw [List.getElem?_append_right (by rw [hf,Nat.add_mul];omega),hf]
   rw [show (q+1)*k+r - k=q*k+r by rw [Nat.add_mul];omega]
   exact ih q r (by simpa using hq) hr
theorem sl_block {T:Type}{k:Nat}{f:T→List Value}{hf:∀x,(f x).length=k}{I:Nat→Prop}{w:World}{g n:Nat}{t:TypeId}{cs:Array Value}{xs:List T}(h:w.heap[g]?=some (.cells cs t (0,0)))(hcs:cs.toList=xs.flatMap f)(hI:I g)(hn:xs.length≤n)(hm:n≤maxLen):
  Sl (Cod.flat k f hf) I w (some ⟨g,0,none⟩) n xs:=by
 refine ⟨hn,hm,fun e=>(by cases e),fun i hi=>⟨g,0,f xs[i],rfl,hI,rfl,fun j u hu=>?_⟩⟩
 rw [(blk h).1]
 have hj:j < k:=by have:=(List.getElem?_eq_some_iff.1 hu).1;rw [hf] at this;exact this
 show cs[0+i*k+j]?=_
 rw [Nat.zero_add,← Array.getElem?_toList,hcs,flat_at hf xs i j hi hj]
 exact hu
end
section
set_option maxRecDepth 100000
set_option maxHeartbeats 1000000
def oneCfg:TCfg:=⟨1,1,1,10,4,[⟨0,100⟩],[],[],[⟨0,50,40,30⟩]⟩
def RetCfg (c:TCfg) (w:World) (e:Ending) (w':World):Prop:=∃S,e= .returned (.agg #[.int .i64 c.sets,.int .i64 c.ways,.int .i64 c.doms,.int .i64 c.pad,.int .i64 c.quantum,.slice S.a0 c.slots.length S.n0,.slice S.a1 c.owners.length S.n1,.slice S.a2 c.chans.length S.n2,.slice S.a3 c.tasks.length S.n3])∧TCfg.At (Rng w.heap.size w'.heap.size) w' c S∧Below w.heap.size w w'
theorem lawOne (w:World):Calls Tryd.prog 12 #[] w (RetCfg oneCfg w):=by
 go_enter Tryd.func12,Tryd.ntmps12
 go_wp2_with fail
 refine bodyPost_ret (v:= .agg #[.int .i64 1,.int .i64 1,.int .i64 1,.int .i64 10,.int .i64 4,.slice (some ⟨w.heap.size+1,0,none⟩) 1 1,.slice none 0 0,.slice none 0 0,.slice (some ⟨w.heap.size+2,0,none⟩) 1 1]) (by simp [results,Tryd.results12,go_sem, *]) rfl ?_
 refine ⟨⟨some ⟨w.heap.size+1,0,none⟩,1,none,0,none,0,some ⟨w.heap.size+2,0,none⟩,1⟩,rfl,⟨?_,Sl.empty _ _ _,Sl.empty _ _ _,?_⟩,byB⟩
 ·exact sl_block (cs:=#[.int .i64 0,.int .i64 100]) (t:=81) byH rfl (by simp only [Rng];simp) (Nat.le_refl _) (by simp [maxLen,oneCfg])
 ·exact sl_block (cs:=#[.int .i64 0,.int .i64 50,.int .i64 40,.int .i64 30]) (t:=83) byH rfl (by simp only [Rng];simp) (Nat.le_refl _) (by simp [maxLen,oneCfg])
end
section
set_option maxRecDepth 100000
set_option maxHeartbeats 400000
theorem tyAct:TyS Tryd.prog 53 52 (.agg #[.int .i64 0,.int .i64 0,.int .i64 0]) 3 24:=⟨Tryd.underlying53,info_of (by kernel_rfl),rfl,by decide⟩
theorem cloneAct (xs:List TAct)(A:Option Addr)(c:Nat)(B:Nat)(w:World)(hB:B≤w.heap.size)(hs:Sl cAct (Low B) w A c xs)(hb:xs.length*24≤140737488355328):
  Calls Tryd.prog 38 #[.slice A xs.length c] w (RetRow 52 3 xs.length (xs.flatMap TAct.cells) w):=by
 have hm:xs.length≤maxLen:=Nat.le_trans hs.cap hs.max
 cases A with
 |none=>
  have h0:xs=[]:=List.eq_nil_of_length_eq_zero (by have:=hs.nil rfl;have:=hs.cap;omega)
  subst h0
  have hq:=fun w=>Lib.run_eql_slice_nil (P:=Tryd.prog) w 53 52 none 0 c 0 0 Tryd.underlying53
  go_enter Tryd.func38,Tryd.ntmps38
  go_wp2
  go_ret
  exact ⟨_,_,rfl,World.ownsRow_nil _ _ _ _,Below.refl _ _⟩
 |some ad=>
  have hq:=fun w=>Lib.run_eql_slice_nil (P:=Tryd.prog) w 53 52 (some ad) xs.length c 0 0 Tryd.underlying53
  have hsrc1:=zH ((hs.next hB (w':=w.alloc (.cells #[] 52)) byB).src (f:=TAct.cells))
  clear hs
  have ho:=World.ownsRow_made w (base:=w.heap.size) (e:=52) (size:=3) #[] 0 (Nat.le_refl _) (by unfold maxLen;omega) rfl
  go_enter Tryd.func38,Tryd.ntmps38
  go_wp2_with (at_builtin;refine wpList_app rfl (.tmp 5) (.tmp 6) _ rfl w.heap.size tyAct _ 0 [] (by rfl) ho (some ad) xs.length c (xs.flatMap TAct.cells) (by rfl) hsrc1.out (one_act _) ?_ ?_ ?_ ?_;(omega);(omega);(simp);intro A1 c1 w1 hown1 hg1 hat1)
  go_ret
  simp only [Nat.zero_add,List.nil_append] at hown1
  exact ⟨A1,c1,by simp,hown1,grown_below byB (by simp) ho hg1⟩
end
section
set_option maxRecDepth 1000000
set_option maxHeartbeats 4000000
def oAct:OCod TAct:=OCod.flat 3 TAct.cells (fun _=>rfl)
def oActs:OCod (List TAct):=OCod.sliceZ 52 oAct
theorem tyActs:TyS Tryd.prog 28 53 (.slice none 0 0) 1 24:=⟨Tryd.underlying28,info_of (by kernel_rfl),rfl,by decide⟩
structure ActG (wr:World) (NN gb:Nat) (A:Option Addr) (i n:Nat) (xs:List (List TAct)) (vs:List TAct) (x1 x2:Value) (l:Array Bool) (f:Nat→Value) (W:World) (A7:Option Addr) (c7 gr:Nat) (A6:Option Addr) (c6:Nat):Prop where
 ne:¬ Lst l 5→Below wr.heap.size wr W
 eff:MEff (fun b=>NN≤b∨b=gb) wr W
 b0:¬ Lst l 7→W.heap[gb]?=some (.cells #[.slice A i n,x1,x2] 31)
 o4:Lst l 4→Lst l 3
 o5:Lst l 5→Lst l 1∧Lst l 3∧Lst l 4
 o7:Lst l 7→Lst l 5
 s3:Lst l 3→f 37= .slice A7 vs.length c7∧(¬ Lst l 5→ownsZ W 52 3 (.slice A7 vs.length c7) vs.length (vs.flatMap TAct.cells)∧∀b,rowZ (.slice A7 vs.length c7)=some b→wr.heap.size≤b)
 s4:Lst l 4→f 38= .slice (some ⟨gr,0,none⟩) 1 1∧(¬ Lst l 5→W.heap[gr]?=some (.cells #[.slice A7 vs.length c7] 53)∧wr.heap.size≤gr)
 s5:Lst l 5→f 39= .slice A6 (i+1) c6∧OZl oActs 53 (Rng NN W.heap.size) W (.slice A6 (i+1) c6) (xs++[vs])
 s7:Lst l 7→W.heap[gb]?=some (.cells #[.slice A6 (i+1) c6,x1,x2] 31)
def ActS (wr:World) (NN gb:Nat) (A:Option Addr) (i n:Nat) (xs:List (List TAct)) (vs:List TAct) (x1 x2:Value) (l:Array Bool) (f:Nat→Value) (W:World):Prop:=∃A7 c7 gr A6 c6,ActG wr NN gb A i n xs vs x1 x2 l f W A7 c7 gr A6 c6
section
variable {wr W W' : World} {NN gb : Nat} {A : Option Addr} {i n : Nat} {xs : List (List TAct)} {vs : List TAct} {x1 x2 : Value} {l : Array Bool} {f : Nat → Value} {A7 : Option Addr} {c7 gr : Nat} {A6 : Option Addr} {c6 : Nat}
theorem actS_start (hl:∀i,¬ Lst l i)(hb:Below wr.heap.size wr W)(hx:W.heap[gb]?=some (.cells #[.slice A i n,x1,x2] 31)):ActS wr NN gb A i n xs vs x1 x2 l f W:=
 ⟨none,0,0,none,0,fun _=>hb,MEff.ofBelow hb,fun _=>hx,fun h=>absurd h (hl _),fun h=>absurd h (hl _),fun h=>absurd h (hl _),fun h=>absurd h (hl _),fun h=>absurd h (hl _),fun h=>absurd h (hl _),fun h=>absurd h (hl _)⟩
theorem ActS.skip (h:ActS wr NN gb A i n xs vs x1 x2 l f W){j dd:Nat}(hi:j ∉ [3,4,5,7]:=by decide)(hd:dd ∉ [37,38,39]:=by decide)(v:Value):ActS wr NN gb A i n xs vs x1 x2 (l.setIfInBounds j true) (upd f (some dd) v) W:=by
 obtain ⟨A7,c7,gr,A6,c6,h⟩:=h
 simp only [List.mem_cons,List.not_mem_nil,or_false,not_or] at hi hd
 have bk:∀ {q},q=3∨q=4∨q=5∨q=7→Lst (l.setIfInBounds j true) q→Lst l q:=fun e h=>h.back (by omega)
 refine ⟨A7,c7,gr,A6,c6,fun a=>h.ne fun c=>a c.fwd,h.eff,fun a=>h.b0 fun c=>a c.fwd,fun a=>(h.o4 (bk (by omega) a)).fwd,fun a=>?_,fun a=>(h.o7 (bk (by omega) a)).fwd,fun a=>?_,fun a=>?_,fun a=>?_,fun a=>h.s7 (bk (by omega) a)⟩
 ·obtain ⟨h1,h2,h3⟩:=h.o5 (bk (by omega) a)
  exact ⟨h1.fwd,h2.fwd,h3.fwd⟩
 ·rw [upd_ne f _ (show 37≠dd by omega)];exact ⟨(h.s3 (bk (by omega) a)).1,fun c=>(h.s3 (bk (by omega) a)).2 fun e=>c e.fwd⟩
 ·rw [upd_ne f _ (show 38≠dd by omega)];exact ⟨(h.s4 (bk (by omega) a)).1,fun c=>(h.s4 (bk (by omega) a)).2 fun e=>c e.fwd⟩
 ·rw [upd_ne f _ (show 39≠dd by omega)];exact h.s5 (bk (by omega) a)
theorem ActS.ne (h:ActS wr NN gb A i n xs vs x1 x2 l f W)(hn:¬ Lst l 5):Below wr.heap.size wr W:=by obtain ⟨_,_,_,_,_,h⟩:=h;exact h.ne hn
theorem ActS.o5 (h:ActS wr NN gb A i n xs vs x1 x2 l f W)(hn:Lst l 5):Lst l 1∧Lst l 3∧Lst l 4:=by obtain ⟨_,_,_,_,_,h⟩:=h;exact h.o5 hn
theorem ActS.b0 (h:ActS wr NN gb A i n xs vs x1 x2 l f W)(hn:¬ Lst l 5):W.heap[gb]?=some (.cells #[.slice A i n,x1,x2] 31):=by obtain ⟨_,_,_,_,_,h⟩:=h;exact h.b0 fun e=>hn (h.o7 e)
theorem ActS.call (h:ActS wr NN gb A i n xs vs x1 x2 l f W)(hz:l.size=8)(hn:¬ Lst l 3)(hg:gb < wr.heap.size){A7:Option Addr}{c7:Nat}(hb:Below W.heap.size W W')(ho:ownsZ W' 52 3 (.slice A7 vs.length c7) vs.length (vs.flatMap TAct.cells))(hr:∀b,rowZ (.slice A7 vs.length c7)=some b→W.heap.size≤b):
  ActS wr NN gb A i n xs vs x1 x2 (l.setIfInBounds 3 true) (upd f (some 37) (.slice A7 vs.length c7)) W':=by
 have h5:¬ Lst l 5:=fun e=>hn (h.o5 e).2.1
 obtain ⟨_,_,gr,A6,c6,h⟩:=h
 have hw:=h.ne h5
 have hz5:=hw.size
 have h4:¬ Lst l 4:=fun e=>hn (h.o4 e)
 have h7:¬ Lst l 7:=fun e=>h5 (h.o7 e)
 exact ⟨A7,c7,gr,A6,c6,fun _=>hw.trans (hb.mono hw.size),h.eff.trans (M':=fun _=>False) (MEff.ofBelow hb) fun _ e=>e.elim,fun _=>(hb.block _ (by omega)).trans (h.b0 h7),fun a=>absurd a.b h4,fun a=>absurd a.b h5,fun a=>absurd a.b h7,
  fun _=>⟨upd_at _ _ _,fun _=>⟨ho,fun b hb=>by have:=hr b hb;omega⟩⟩,fun a=>absurd a.b h4,fun a=>absurd a.b h5,fun a=>absurd a.b h7⟩
theorem ActS.box (h:ActG wr NN gb A i n xs vs x1 x2 l f W A7 c7 gr A6 c6)(hz:l.size=8)(hn:¬ Lst l 4)(h3:Lst l 3)(hg:gb < wr.heap.size):
  ActS wr NN gb A i n xs vs x1 x2 (l.setIfInBounds 4 true) (upd f (some 38) (.slice (some ⟨W.heap.size,0,none⟩) 1 1)) (W.alloc (.cells #[.slice A7 vs.length c7] 53)):=by
 have h5:¬ Lst l 5:=fun e=>hn (h.o5 e).2.2
 have hb:Below W.heap.size W (W.alloc (.cells #[.slice A7 vs.length c7] 53)):=Below.alloc (Below.refl _ _) (Nat.le_refl _) _
 have hw:=h.ne h5
 have hz5:=hw.size
 have h7:¬ Lst l 7:=fun e=>h5 (h.o7 e)
 obtain ⟨e3,k3⟩:=h.s3 h3
 obtain ⟨o3,r3⟩:=k3 h5
 refine ⟨A7,c7,W.heap.size,A6,c6,fun _=>hw.trans (hb.mono hw.size),h.eff.trans (M':=fun _=>False) (MEff.ofBelow hb) fun _ e=>e.elim,fun _=>(hb.block _ (by omega)).trans (h.b0 h7),fun _=>h3.fwd,fun a=>absurd a.b h5,fun a=>absurd a.b h7,
  fun _=>⟨?_,fun _=>⟨ownZ_keep o3 fun b hb=>heap_alloc_old _ _ (ownZ_lt o3 b hb),r3⟩⟩,fun _=>⟨upd_at _ _ _,fun _=>⟨heap_alloc_new _ _,hw.size⟩⟩,fun a=>absurd a.b h5,fun a=>absurd a.b h7⟩
 rw [upd_ne f _ (show 37≠38 by decide)];exact e3
theorem ActS.app (h:ActG wr NN gb A i n xs vs x1 x2 l f W A7 c7 gr A6 c6)(hz:l.size=8)(hn:¬ Lst l 5)(h1:Lst l 1)(h4:Lst l 4)(hg:gb < NN)(hgr:NN≤wr.heap.size){ess:List (List Value)}{G:Nat→Nat→Prop}
  (e1:ess.length=xs.length) (e3:∀b,rowZ (.slice A i n)=some b→Rng NN wr.heap.size b) (e4:∀q es x,ess[q]?=some es→xs[q]?=some x→oActs.rel (G q) wr es x) (e5:∀q b,G q b→Rng NN wr.heap.size b∧rowZ (.slice A i n)≠some b) (e6:∀q j b,q≠j→G q b→¬ G j b) (hi:xs.length=i)
  {A':Option Addr} {c':Nat} (own3:ownsZ W' 53 1 (.slice A' (i+1) c') (i+1) (ess.flatten++[.slice A7 vs.length c7])) (gr3:W.grownBy W' (rowZ (.slice A i n))) (at3:∀b,rowZ (.slice A' (i+1) c')=some b→rowZ (.slice A i n)=some b∨b=W.heap.size):
  ActS wr NN gb A i n xs vs x1 x2 (l.setIfInBounds 5 true) (upd f (some 39) (.slice A' (i+1) c')) W':=by
 have hw:=h.ne hn
 have hzw:=hw.size
 have h3:=h.o4 h4
 have h7:¬ Lst l 7:=fun e=>hn (h.o7 e)
 obtain ⟨f3,k3⟩:=h.s3 h3
 obtain ⟨o3,r3⟩:=k3 hn
 obtain ⟨f4,k4⟩:=h.s4 h4
 have hrow:∀b,rowZ (.slice A i n)=some b→NN≤b∧b < wr.heap.size:=fun b hb=>e3 b hb
 have self:Lst (l.setIfInBounds 5 true) 5:=Lst.self (by omega)
 have hE:MEff (fun b=>rowZ (.slice A i n)=some b) W W':=⟨Below.grown (Below.refl _ _) gr3 (Nat.zero_le _) fun _ _=>Nat.zero_le _,fun b hb hn=>gr3.block b hb fun e=>hn e.symm⟩
 subst hi
 refine ⟨A7,c7,gr,A',c',fun a=>absurd self a,h.eff.trans hE fun b hb=> .inl (.inl (hrow b hb).1),fun _=>(hE.keep gb (by omega) fun e=>by have:=hrow gb e;omega).trans (h.b0 h7),fun _=>h3.fwd,fun _=>⟨h1.fwd,h3.fwd,h4.fwd⟩,fun a=>absurd a.b h7,fun _=>⟨?_,fun a=>absurd self a⟩,fun _=>⟨?_,fun a=>absurd self a⟩,fun _=>⟨upd_at _ _ _,?_⟩,fun a=>absurd a.b h7⟩
 ·rw [upd_ne f _ (show 37≠39 by decide)];exact f3
 ·rw [upd_ne f _ (show 38≠39 by decide)];exact f4
 ·have hlz:=ownZ_lt o3
  have hsw:=gr3.size
  exact ozl_step (F:=Rng NN wr.heap.size) (Fx:=Rng wr.heap.size W.heap.size) (w0:=wr) (es:=[.slice A7 vs.length c7]) e1 e4 e5 e6 e3 gr3 at3 own3 ⟨_,rfl,ozl_flat.2 ⟨o3,fun b hb=>⟨r3 b hb,hlz b hb⟩⟩⟩ (fun b hb=>hw.block b hb.2) (fun b h1 h2=>by simp only [Rng] at h1 h2;omega) (fun b h=>by simp only [Rng] at h;omega) (fun b h=>by simp only [Rng] at h⊢;omega) (fun b h1 h2=>by simp only [Rng];omega) (KeepI.refl _ _)
theorem ActS.put (h:ActG wr NN gb A i n xs vs x1 x2 l f W A7 c7 gr A6 c6)(hz:l.size=8)(hn:¬ Lst l 7)(h5:Lst l 5)(hg:gb < NN){v:Value} :
  ActS wr NN gb A i n xs vs x1 x2 (l.setIfInBounds 7 true) (upd f none v) (W.setCell ⟨gb,0,none⟩ (.slice A6 (i+1) c6)):=by
 have self:Lst (l.setIfInBounds 7 true) 7:=Lst.self (by omega)
 have e:upd f none v=f:=by funext k;simp [upd]
 rw [e]
 have kp:∀b,b≠gb→(W.setCell ⟨gb,0,none⟩ (.slice A6 (i+1) c6)).heap[b]?=W.heap[b]?:=fun b hb=>Below.heap_setCell _ _ _ _ hb
 obtain ⟨h1,h3,h4⟩:=h.o5 h5
 refine ⟨A7,c7,gr,A6,c6,fun a=>absurd h5.fwd a,h.eff.far (Below.setCell (Below.refl _ _) (Nat.zero_le _) _) kp (.inl (.inr rfl)),fun a=>absurd self a,fun _=>h3.fwd,fun _=>⟨h1.fwd,h3.fwd,h4.fwd⟩,fun _=>h5.fwd,fun _=>⟨(h.s3 h3).1,fun a=>absurd h5.fwd a⟩,fun _=>⟨(h.s4 h4).1,fun a=>absurd h5.fwd a⟩,fun _=>⟨(h.s5 h5).1,?_⟩,fun _=>?_⟩
 ·rw [World.size_setCell]
  exact OZl.keep (h.s5 h5).2 fun b hb=>kp b (by have:=hb.1;omega)
 ·have:=heap_set_same (i:=0) (u:= .slice A6 (i+1) c6) (h.b0 hn)
  simpa using this
end
def slotRnO (k:Nat):Code→Option Code
 | .seq a b=>match slotRnO k a with
  |some c=>some c
  |none=>slotRnO k b
 | .cond _ a b=>match slotRnO k a with
  |some c=>some c
  |none=>slotRnO k b
 | .block _ c=>slotRnO k c
 | .loop c=>slotRnO k c
 | .region i o d=>if i==k then some (.region i o d) else none
 |_=>none
noncomputable def onlyR (k:Nat):Code:=(Tryd.f21.body.bind (slotRnO k)).getD .skip
theorem onlyR8 (C:Code)(hC:C=onlyR 8){B:Nat}{wr:World}{NN gb:Nat}{A A9:Option Addr}{i n c9:Nat}{xs:List (List TAct)}{vs:List TAct}{x1 x2:Value}(hB:B≤wr.heap.size)(hgN:Hid (gb < NN))(hNz:Hid (NN≤wr.heap.size))(hi:Hid (xs.length=i))(hi4:i < 4)(hv:vs.length≤60)
  (hbx:wr.heap[gb]?=some (.cells #[.slice A i n,x1,x2] 31)) (hO:Hid (OZl oActs 53 (Rng NN wr.heap.size) wr (.slice A i n) xs)) (hs:Sl cAct (Low B) wr A9 c9 vs)
  {u0 u1 u2 u3 u4 u5 u6 u7 u9 u11 u12 u13 u14 u15 u16 u17 u18 u19 u20 u21 u22 u23 u24 u25 u26 u27 u28 u29 u30 u31 u32 u33 u34 u35 u36 u37 u38 u39 u40 u41 u42 u43 u44 u45 u46 u47 u48 u49 u50 u51 u52 u53 u54 u55 u56 u57 u58 u59 u60 u61 u62 u63 u64 u65 u66 u67 u68:Value} {Q:Exit→Act→World→Prop}
  (hQ:∀(v34 v35 v36 v37 v38 v39 v40:Value) (A':Option Addr) (c':Nat) (W':World),OZl oActs 53 (Rng NN W'.heap.size) W' (.slice A' (i+1) c') (xs++[vs])→W'.heap[gb]?=some (.cells #[.slice A' (i+1) c',x1,x2] 31)→MEff (fun b=>NN≤b∨b=gb) wr W'→Q .normal ⟨[u0,u1,u2,u3,u4,u5,u6,u7,.pointer (some ⟨gb,0,none⟩),u9,.slice A9 vs.length c9,u11,u12,u13,u14,u15,u16,u17,u18,u19,u20,u21,u22,u23,u24,u25,u26,u27,u28,u29,u30,u31,u32,u33,v34,v35,v36,v37,v38,v39,v40,u41,u42,u43,u44,u45,u46,u47,u48,u49,u50,u51,u52,u53,u54,u55,u56,u57,u58,u59,u60,u61,u62,u63,u64,u65,u66,u67,u68].toArray,[]⟩ W'):
  Code.wp Tryd.prog C Q ⟨[u0,u1,u2,u3,u4,u5,u6,u7,.pointer (some ⟨gb,0,none⟩),u9,.slice A9 vs.length c9,u11,u12,u13,u14,u15,u16,u17,u18,u19,u20,u21,u22,u23,u24,u25,u26,u27,u28,u29,u30,u31,u32,u33,u34,u35,u36,u37,u38,u39,u40,u41,u42,u43,u44,u45,u46,u47,u48,u49,u50,u51,u52,u53,u54,u55,u56,u57,u58,u59,u60,u61,u62,u63,u64,u65,u66,u67,u68].toArray,[]⟩ wr:=by
 subst hC
 replace hQ:=zH hQ
 conv=>arg 2;whnf
 have hgz:Hid (gb < wr.heap.size):=zH (by have:=hgN.out;have:=hNz.out;omega)
 have HE:=zH (fun W (h:Below wr.heap.size wr W)=>cloneAct vs A9 c9 B W (Nat.le_trans hB h.size) (hs.next hB h) (by omega))
 refine wp_region_inv [34,35,36,37,38,39,40] (fun l f W=>(ActS wr NN gb A i n xs vs x1 x2 l f W∧l.size=8)∧Fa l 0 (f 34= .pointer (some ⟨gb,0,none⟩))∧Fa l 1 (f 35= .slice A i n)∧Fa l 2 (f 36= .slice A9 vs.length c9)∧Fa l 6 (f 40= .pointer (some ⟨gb,0,none⟩))) (by kernel_rfl) (by decide) (by kernel_rfl) (by intro s hs;simp at hs⊢;omega) ?_ ?_ ?_
 ·intro l hz hl
  exact ⟨⟨actS_start hl (Below.refl _ _).drew hbx,hz⟩,.no (hl 0),.no (hl 1),.no (hl 2),.no (hl 6)⟩
 ·refine StepsL.c 1 [] (fun l f W hR hn hb K Q2 hK=>?_) ?_
  ·obtain ⟨hS,h0,h1,h2,h6⟩:=hR
   clear hb
   refine ⟨?_⟩
   simp only [pfs] at hK⊢
   go_simp
   refine hK.out _ _ ⟨⟨hS.1.skip (v:=_),by simpa using hS.2⟩,⟨fun _=>rfl⟩,h1.k,h2.k,h6.k⟩
  refine StepsL.c 2 [0] (fun l f W hR hn hb K Q2 hK=>?_) ?_
  ·obtain ⟨hS,h0,h1,h2,h6⟩:=hR
   have q0:=h0.out (hb 0 (by simp))
   have hn5:¬ Lst l 5:=fun h=>hn (hS.1.o5 h).1
   have hbx:=hS.1.b0 hn5
   clear hb
   refine ⟨?_⟩
   simp only [pfs] at hK⊢
   (try simp only [q0] at hK)
   obtain ⟨cX,fX,zX⟩:=blk hbx
   go_simp
   refine hK.out _ _ ⟨⟨hS.1.skip (v:=_),by simpa using hS.2⟩,h0.k,⟨fun _=>rfl⟩,h2.k,h6.k⟩
  refine StepsL.c 3 [] (fun l f W hR hn hb K Q2 hK=>?_) ?_
  ·obtain ⟨hS,h0,h1,h2,h6⟩:=hR
   clear hb
   refine ⟨?_⟩
   simp only [pfs] at hK⊢
   go_simp
   refine hK.out _ _ ⟨⟨hS.1.skip (v:=_),by simpa using hS.2⟩,h0.k,h1.k,⟨fun _=>rfl⟩,h6.k⟩
  refine StepsL.c 4 [2] (fun l f W hR hn hb K Q2 hK=>?_) ?_
  ·obtain ⟨hS,h0,h1,h2,h6⟩:=hR
   have q2:=h2.out (hb 2 (by simp))
   have hn5:¬ Lst l 5:=fun h=>hn (hS.1.o5 h).2.1
   have hS9:=hS.1.ne hn5
   have HL:=HE.out W hS9
   clear hb
   refine ⟨?_⟩
   simp only [pfs] at hK⊢
   (try simp only [q2] at hK)
   go_simp
   go_at_call 38
   refine HL.mono ?_
   clear HL
   rintro e w9 ⟨A7,c7,rfl,own7,hb9⟩
   try dsimp only
   try simp only [Act.put,List.setIfInBounds_toArray,List.set_cons_zero,List.set_cons_succ]
   refine hK.out _ _ ⟨⟨hS.1.call hS.2 hn hgz.out hb9 (.of own7) (fun b hb=>(own_lt own7 b (rowZ_own hb)).1),by simpa using hS.2⟩,h0.k,h1.k,h2.k,h6.k⟩
  refine StepsL.c 5 [3] (fun l f W hR hn hb K Q2 hK=>?_) ?_
  ·obtain ⟨hS,h0,h1,h2,h6⟩:=hR
   have L3:=hb 3 (by simp)
   obtain ⟨A7,c7,gr,A6,c6,hG9⟩:=hS.1
   have e9:=(hG9.s3 L3).1
   clear hb
   refine ⟨?_⟩
   simp only [pfs] at hK⊢
   (try simp only [e9] at hK)
   go_simp
   refine hK.out _ _ ⟨⟨ActS.box hG9 hS.2 hn L3 hgz.out,by simpa using hS.2⟩,h0.k,h1.k,h2.k,h6.k⟩
  refine StepsL.c 6 [1,4,3] (fun l f W hR hn hb K Q2 hK=>?_) ?_
  ·obtain ⟨hS,h0,h1,h2,h6⟩:=hR
   have q1:=h1.out (hb 1 (by simp))
   have L1:=hb 1 (by simp)
   have L4:=hb 4 (by simp)
   obtain ⟨A7,c7,gr,A6,c6,hG9⟩:=hS.1
   have L3:=hG9.o4 L4
   have e8:=(hG9.s4 L4).1
   have hgr9:=((hG9.s4 L4).2 hn).1
   have hw9:=hG9.ne hn
   obtain ⟨ess,G,z1,z2,z3,z4,z5,z6⟩:=hO.out
   have z2:ownsZ wr 53 1 (.slice A i n) xs.length ess.flatten:=z2
   rw [hi.out] at z2
   have z2w:=ownZ_keep z2 (fun b hb=>hw9.block b (z3 b hb).2)
   clear hb
   refine ⟨?_⟩
   simp only [pfs] at hK⊢
   (try simp only [q1,e8] at hK)
   simp only [q1,e8]
   refine wp_appZ (.tmp 35) (.tmp 38) _ rfl tyActs (.slice A i n) i ess.flatten (by rfl) z2w (some ⟨gr,0,none⟩) 1 1 [.slice A7 vs.length c7] (by rfl) (Src.of_new hgr9 rfl) (one_one rfl) (by unfold maxLen;omega) (by omega) (fun A8 c8 w8 own3 gr3 at3=>?_)
   simp only [Act.put,List.setIfInBounds_toArray,List.set_cons_zero,List.set_cons_succ]
   refine hK.out _ _ ⟨⟨ActS.app hG9 hS.2 hn L1 L4 hgN.out hNz.out z1 z3 z4 z5 z6 hi.out own3 gr3 at3,by simpa using hS.2⟩,h0.k,h1.k,h2.k,h6.k⟩
  refine StepsL.c 7 [0,1,2,3,4,5] (fun l f W hR hn hb K Q2 hK=>?_) ?_
  ·obtain ⟨hS,h0,h1,h2,h6⟩:=hR
   have q0:=h0.out (hb 0 (by simp))
   have q1:=h1.out (hb 1 (by simp))
   have q2:=h2.out (hb 2 (by simp))
   clear hb
   refine ⟨?_⟩
   simp only [pfs] at hK⊢
   (try simp only [q0,q1,q2] at hK)
   go_simp
   refine hK.out _ _ ⟨⟨hS.1.skip (v:=_),by simpa using hS.2⟩,h0.k,h1.k,h2.k,⟨fun _=>rfl⟩⟩
  refine StepsL.c 8 [6,5,5,0,1,2,3,4,5] (fun l f W hR hn hb K Q2 hK=>?_) ?_
  ·obtain ⟨hS,h0,h1,h2,h6⟩:=hR
   have q0:=h0.out (hb 0 (by simp))
   have q1:=h1.out (hb 1 (by simp))
   have q2:=h2.out (hb 2 (by simp))
   have q6:=h6.out (hb 6 (by simp))
   have L5:=hb 5 (by simp)
   obtain ⟨A7,c7,gr,A6,c6,hG9⟩:=hS.1
   have e9:=(hG9.s5 L5).1
   have hbx:=hG9.b0 hn
   clear hb
   refine ⟨?_⟩
   simp only [pfs] at hK⊢
   (try simp only [q0,q1,q2,q6,e9] at hK)
   obtain ⟨cX,fX,zX⟩:=blk hbx
   go_simp
   refine hK.out undef _ ⟨⟨ActS.put hG9 hS.2 hn L5 hgN.out,by simpa using hS.2⟩,h0.k,h1.k,h2.k,h6.k⟩
  exact StepsL.nil
 ·intro l f W hR hall
  obtain ⟨hS,h0,h1,h2,h6⟩:=hR
  have q0:=h0.out (hall 0 (by decide))
  have q1:=h1.out (hall 1 (by decide))
  have q2:=h2.out (hall 2 (by decide))
  have q6:=h6.out (hall 6 (by decide))
  clear h0 h1 h2 h6
  obtain ⟨A7,c7,gr,A6,c6,hG9⟩:=hS.1
  have h5:=(hG9.s5 (hall 5 (by decide))).2
  have h7:=hG9.s7 (hall 7 (by decide))
  simp only [pfs]
  exact hQ.out _ _ _ _ _ _ _ A6 c6 W h5 h7 hG9.eff
end
section
def stepR (x:TChan) (r:List Bool):List Bool:=r.set x.dst.toNat (nth r x.dst.toNat||nth r x.src.toNat)
def passR (xs:List TChan) (r:List Bool):List Bool:=xs.foldl (fun r x=>stepR x r) r
def iterR (xs:List TChan):Nat→List Bool→List Bool
 |0,r=>r
 |n+1,r=>passR xs (iterR xs n r)
def unitR (n i:Nat):List Bool:=(List.replicate n false).set i true
def reachRow (c:TCfg) (i:Nat):List Bool:=iterR c.chans c.doms.toNat (unitR c.doms.toNat i)
theorem stepR_length (x:TChan)(r:List Bool):(stepR x r).length=r.length:=by simp [stepR]
theorem passR_snoc (xs:List TChan)(x:TChan)(r:List Bool):passR (xs++[x]) r=stepR x (passR xs r):=by unfold passR;rw [List.foldl_append];rfl
theorem passR_length (xs:List TChan)(r:List Bool):(passR xs r).length=r.length:=by
 unfold passR
 induction xs generalizing r with
 |nil=>rfl
 |cons x l ih=>rw [List.foldl_cons,ih,stepR_length]
theorem iterR_length (xs:List TChan)(n:Nat)(r:List Bool):(iterR xs n r).length=r.length:=by
 induction n with
 |zero=>rfl
 |succ n ih=>unfold iterR;rw [passR_length,ih]
theorem unitR_length (n i:Nat):(unitR n i).length=n:=by simp [unitR]
theorem stepR_up {x:TChan}{r:List Bool}{j:Nat}(hj:j < r.length)(h:nth r j=true):nth (stepR x r) j=true:=by
 unfold stepR
 rw [nth_set hj]
 split
 ·rename_i e;subst e;simp [h]
 ·exact h
theorem passR_up {xs:List TChan} :∀ {r:List Bool} {j:Nat},j < r.length→nth r j=true→nth (passR xs r) j=true:=by
 unfold passR
 induction xs with
 |nil=>intro r j _ h;exact h
 |cons x l ih=>intro r j hj h;rw [List.foldl_cons];exact ih (by rw [stepR_length];exact hj) (stepR_up hj h)
def falses (r:List Bool):Nat:=(r.filter fun b=>!b).length
theorem falses_le (r:List Bool):falses r≤r.length:=List.length_filter_le _ _
theorem falses_mono:∀ {r s:List Bool},r.length=s.length→(∀j,j < r.length→nth r j=true→nth s j=true)→r=s∨falses s < falses r:=by
 intro r
 induction r with
 |nil=>intro s h _;left;exact (List.eq_nil_of_length_eq_zero (by simpa using h.symm)).symm
 |cons a r ih=>
  intro s h hup
  cases s with
  |nil=>simp at h
  |cons b s=>
   have h0:=hup 0 (by simp)
   have hr:=ih (s:=s) (by simpa using h) fun j hj e=>hup (j+1) (by simpa using hj) e
   unfold falses at hr⊢
   change a=true→b=true at h0
   cases a<;>cases b<;>simp only [List.filter_cons,Bool.not_false,Bool.not_true,if_true,if_false,Bool.false_eq_true,List.length_cons] at*
   ·rcases hr with rfl|hr
    ·exact .inl rfl
    ·right;omega
   ·rcases hr with rfl|hr
    ·right;omega
    ·right;omega
   ·simp at h0
   ·rcases hr with rfl|hr
    ·exact .inl rfl
    ·right;exact hr
theorem pass_less (xs:List TChan)(r:List Bool):passR xs r=r∨falses (passR xs r) < falses r:=by
 rcases falses_mono (r:=r) (s:=passR xs r) (passR_length xs r).symm (fun j hj h=>passR_up hj h) with h|h
 ·exact .inl h.symm
 ·exact .inr h
theorem iter_fix (xs:List TChan)(r:List Bool):∀n,passR xs (iterR xs n r)=iterR xs n r∨falses (iterR xs n r)+n≤falses r:=by
 intro n
 induction n with
 |zero=>right;simp [iterR]
 |succ n ih=>
  rcases ih with h|h
  ·left;unfold iterR;rw [h,h]
  ·rcases pass_less xs (iterR xs n r) with h2|h2
   ·left;unfold iterR;rw [h2,h2]
   ·right;unfold iterR;omega
theorem falses_unit {n i:Nat}(h:i < n):falses (unitR n i) < n:=by
 have h1:=falses_le (unitR n i)
 rw [unitR_length] at h1
 rcases Nat.lt_or_ge (falses (unitR n i)) n with h2|h2
 ·exact h2
 ·exfalso
  have h3:falses (unitR n i)=(unitR n i).length:=by rw [unitR_length];omega
  unfold falses at h3
  rw [List.length_filter_eq_length_iff] at h3
  have:=h3 true (by rw [List.mem_iff_getElem];exact ⟨i,by rw [unitR_length];exact h,by simp [unitR]⟩)
  simp at this
theorem reach_fix {c:TCfg}{i:Nat}(h:i < c.doms.toNat):passR c.chans (reachRow c i)=reachRow c i:=by
 unfold reachRow
 rcases iter_fix c.chans (unitR c.doms.toNat i) c.doms.toNat with h1|h1
 ·exact h1
 ·have:=falses_unit h;omega
theorem reachRow_length (c:TCfg)(i:Nat):(reachRow c i).length=c.doms.toNat:=by unfold reachRow;rw [iterR_length,unitR_length]
end
end Go.Proofs.YtinlmkhlgclbfabDoor
