/- JobDel to WinJ -/
import Derived.Test.YtinlmkhlgclbfabDoorAs23
namespace Go.Proofs.YtinlmkhlgclbfabDoor
open Go.RowKit
section
set_option maxRecDepth 100000
set_option maxHeartbeats 4000000
theorem ownZ_setCells {E:TypeId}{size g n c:Nat} :∀(vs:List Value) (o:Nat) (w:World) (xs:List Value),ownsZ w E size (.slice (some ⟨g,0,none⟩) n c) n xs→o+vs.length≤xs.length→
  ownsZ (w.setCells g o vs) E size (.slice (some ⟨g,0,none⟩) n c) n (xs.take o++vs++xs.drop (o+vs.length))
 |[],o,w,xs,h,hl=>by simpa [World.setCells] using h
 |v::vs,o,w,xs,h,hl=>by
  simp only [List.length_cons] at hl
  have h2:=ownZ_setCells vs (o+1) _ _ (ownZ_set h (j:=o) (by omega) v) (by simp;omega)
  have e1:(xs.set o v).take (o+1)=xs.take o++[v]:=by
   rw [List.set_eq_take_append_cons_drop,if_pos (by omega),List.take_append,List.take_of_length_le (by rw [List.length_take];omega),List.length_take,Nat.min_eq_left (by omega),Nat.add_sub_cancel_left]
   rfl
  have e2:(xs.set o v).drop (o+1+vs.length)=xs.drop (o+(vs.length+1)):=by
   rw [List.drop_set_of_lt (by omega)]
   congr 1
   omega
  rw [e1,e2] at h2
  simpa [World.setCells] using h2
theorem ownZ_cut {w:World}{E:TypeId}{size g n c:Nat}{xs:List Value}(h:ownsZ w E size (.slice (some ⟨g,0,none⟩) n c) n xs)(m:Nat)(hm:m≤n)(hp:0 < n):ownsZ w E size (.slice (some ⟨g,0,none⟩) m c) m (xs.take (m*size)):=by
 rcases h with ⟨hl,h⟩|⟨h0,_,_⟩
 ·rcases h with ⟨hv,_⟩|⟨g',cap,cur,hv,hb,hg,hn,hx,hcs,ht⟩
  ·cases hv
  ·injection hv with e1 e2 e3
   injection e1 with e1;injection e1 with e1
   subst e1;subst e3
   have hms:m*size≤n*size:=Nat.mul_le_mul_right _ hm
   refine .inl ⟨by rw [List.length_take];omega,.inr ⟨g,c,cur,rfl,hb,hg,by omega,hx,hcs,?_⟩⟩
   rw [← ht,List.take_take,Nat.min_eq_left hms]
 ·omega
theorem del_cells {T:Type}{k:Nat}{f:T→List Value}(hf:∀x,(f x).length=k)(xs:List T)(i:Nat)(hi:i < xs.length)(z r1 r2:List Value):
  ((((xs.flatMap f).take (i*k)++(xs.drop (i+1)).flatMap f++r1).take ((xs.length - 1)*k)++z++r2)).take ((xs.length - 1)*k)=(xs.eraseIdx i).flatMap f:=by
 have hl:(((xs.flatMap f).take (i*k))++((xs.drop (i+1)).flatMap f)).length=(xs.length - 1)*k:=by
  rw [flatMap_take hf,← List.flatMap_append,flatMap_len hf,List.length_append,List.length_take,List.length_drop]
  congr 1
  omega
 rw [List.take_left' (l₁:=(xs.flatMap f).take (i*k)++(xs.drop (i+1)).flatMap f) hl,List.append_assoc,List.take_left' hl]
 rw [flatMap_take hf,← List.flatMap_append,List.eraseIdx_eq_take_drop_succ]
theorem setCells_heap (g:Nat):∀(vs:List Value) (o:Nat) (w:World) {b:Nat},b≠g→(w.setCells g o vs).heap[b]?=w.heap[b]?
 |[],_,_,_,_=>rfl
 |v::vs,o,w,_,h=>(setCells_heap g vs (o+1) (w.setCell ⟨g,o,none⟩ v) h).trans (Below.heap_setCell _ _ _ _ h)
theorem setCells_size (g:Nat):∀(vs:List Value) (o:Nat) (w:World),(w.setCells g o vs).heap.size=w.heap.size
 |[],_,_=>rfl
 |v::vs,o,w=>by rw [World.setCells,setCells_size g vs (o+1)];simp
theorem Below.setCells {B:Nat}{w:World}{g:Nat}(hg:B≤g):∀(vs:List Value) (o:Nat) {w1:World},Below B w w1→Below B w (w1.setCells g o vs)
 |[],_,_,h=>h
 |v::vs,o,_,h=>Below.setCells hg vs (o+1) (Below.setCell h hg v)
theorem jobDelete {g n c:Nat}{w:World}{js:List TJob}(hn:n=js.length)(hown:ownsZ w 74 6 (.slice (some ⟨g,0,none⟩) n c) n (js.flatMap TJob.cells)){k:Nat}(hk:k < js.length):
  Calls Tryd.prog 89 #[.slice (some ⟨g,0,none⟩) n c,.int .i64 k,.int .i64 (k+1)] w fun e w'=>e= .returned (.slice (some ⟨g,0,none⟩) (n - 1) c)∧
   ownsZ w' 74 6 (.slice (some ⟨g,0,none⟩) (n - 1) c) (n - 1) ((js.eraseIdx k).flatMap TJob.cells)∧w'.heap.size=w.heap.size∧(∀b,b≠g→w'.heap[b]?=w.heap[b]?)∧(∀B,B≤g→Below B w w'):=by
 obtain ⟨A0,c0,hv,hc,hm,_,hl,hcase⟩:=ownZ_form hown
 injection hv with e1 e2 e3
 subst e1;subst e3
 rcases hcase with ⟨h0,_,_⟩|⟨g',e1,hc0,hr,hg,hcs,ho⟩
 ·omega
 injection e1 with e1;injection e1 with e1
 subst e1
 have hfz:∀o,w.frozen? ⟨g,o,none⟩=false:=by
  obtain ⟨_,ho⟩:=ho
  rcases ho with ⟨ho,_⟩|⟨g',cap,cur,hv,_,hh,_⟩
  ·cases ho
  ·injection hv with e1 _ _
   injection e1 with e1;injection e1 with e1
   subst e1
   exact (blk hh).2.1
 unfold maxLen at hm
 have hlen:(js.flatMap TJob.cells).length=n*6:=hl
 have hsome:∀j,j < n*6→(w.cell? ⟨g,j,none⟩).isSome=true:=fun j hj=>by
  have:=hcs j _ (List.getElem?_eq_getElem (by omega))
  rw [Nat.zero_add] at this
  rw [this];rfl
 obtain ⟨j,hj⟩:∃j,j=k+1:=⟨_,rfl⟩
 rw [show ((k:Int)+1)=((j:Nat):Int) by omega]
 obtain ⟨news,hnews⟩:∃news,news=(js.drop j).flatMap TJob.cells:=⟨_,rfl⟩
 have hnl:news.length=(n - j)*6:=by rw [hnews,flatMap_len (k:=6) (fun _=>rfl),List.length_drop,hn]
 have hget:∀t u,news[t]?=some u→w.cell? ⟨g,j*6+t,none⟩=some u:=by
  intro t u hu
  rw [hnews,← flatMap_drop (k:=6) (fun _=>rfl),List.getElem?_drop] at hu
  have:=hcs _ u hu
  rwa [Nat.zero_add] at this
 obtain ⟨A,hA,hsrc⟩:∃A:Addr,(if c=j then some (⟨g,0,none⟩:Addr) else some ⟨g,j*6,none⟩)=some A∧RowKit.Hid (∀t u,news[t]?=some u→w.drew.cell? (A.add t)=some u):=by
  by_cases h:c=j
  ·refine ⟨⟨g,0,none⟩,by simp [h],fun t u hu=>?_⟩
   have h0:news.length=0:=by rw [hnl];omega
   rw [List.length_eq_zero_iff.1 h0] at hu
   simp at hu
  ·exact ⟨⟨g,j*6,none⟩,by simp [h],fun t u hu=>by rw [Addr.add_lit];exact hget t u hu⟩
 obtain ⟨W1,hW1⟩:∃W1,W1=w.drew.setCells g (k*6) news:=⟨_,rfl⟩
 obtain ⟨i0,hi0,hz0,hz1,hz2⟩:=tyJob.info
 have ht:=tyJob.ht
 have own1:ownsZ W1 74 6 (.slice (some ⟨g,0,none⟩) n c) n ((js.flatMap TJob.cells).take (k*6)++news++(js.flatMap TJob.cells).drop (k*6+news.length)):=by
  rw [hW1]
  exact ownZ_setCells news (k*6) _ _ (ownZ_keep hown fun _ _=>rfl) (by rw [hlen,hnl];omega)
 have zlen:((js.flatMap TJob.cells).take (k*6)++news++(js.flatMap TJob.cells).drop (k*6+news.length)).length=n*6:=by
  simp only [List.length_append,List.length_take,List.length_drop,hlen,hnl]
  omega
 replace zlen:=zH zlen
 have s0:RowKit.Hid (news.length=(n - j)*6):=hnl
 have s1:RowKit.Hid (∀u∈news,u.oneCell'=true):=fun u hu=>by rw [hnews] at hu;exact one_job _ u hu
 have s2:RowKit.Hid (∀j,j < news.length→(w.drew.cell? ⟨g,0+k*6+j,none⟩).isSome=true∧w.drew.frozen? ⟨g,0+k*6+j,none⟩=false):=fun j hj=>
  ⟨hsome _ (by rw [hnl] at hj;omega),hfz _⟩
 have c1:∀j,j < 6→(W1.cell? ⟨g,(n - 1)*6+j,none⟩).isSome=true∧W1.frozen? ⟨g,(n - 1)*6+j,none⟩=false:=fun j hj=>by
  obtain ⟨_,_,hv1,_,_,_,_,hcase1⟩:=ownZ_form own1
  injection hv1 with e1 e2 e3
  rw [← e1] at hcase1
  rcases hcase1 with ⟨h0,_,_⟩|⟨g',e4,_,_,_,hcs1,ho1⟩
  ·omega
  injection e4 with e4;injection e4 with e4
  rw [← e4] at hcs1
  refine ⟨by
   have:=hcs1 ((n - 1)*6+j) _ (List.getElem?_eq_getElem (by rw [zlen.out];omega))
   rw [Nat.zero_add] at this
   rw [this];rfl,?_⟩
  obtain ⟨_,ho1⟩:=ho1
  rcases ho1 with ⟨ho,_⟩|⟨g',cap,cur,hv,_,hh,_⟩
  ·cases ho
  ·injection hv with e1 _ _
   injection e1 with e1;injection e1 with e1
   rw [e1]
   exact (blk hh).2.1 _
 have hcl:∀ty,(Builtin.clear_ #[41] ty #[.slice (some ⟨g,(k+(n - j))*6,none⟩) (n - (k+(n - j))) (c - (k+(n - j)))]).run Tryd.prog W1= .ok (.tuple #[]) (W1.setCells g ((n - 1)*6) [.int .i64 0,.int .i64 0,.int .i64 0,.int .i64 0,.bool false,.bool false]):=fun ty=>by
  rw [show k+(n - j)=n - 1 by omega,show n - (n - 1)=1 by omega]
  have hst:=run_storeCells_cells (P:=Tryd.prog) g ((n - 1)*6) [.int .i64 0,.int .i64 0,.int .i64 0,.int .i64 0,.bool false,.bool false] 0 W1 (fun j hj=>(c1 j hj).1) (fun j hj=>(c1 j hj).2) (by intro v hv';simp at hv';rcases hv' with rfl|rfl<;>rfl)
  have hz':∀w',(zeroValue 74).run Tryd.prog w'= .ok (.agg #[.int .i64 0,.int .i64 0,.int .i64 0,.int .i64 0,.bool false,.bool false]) w':=fun w'=>by
   simp [zeroValue,typeInfo,hi0,hz0]
  have hzc:(Builtin.zeroCells (Value.agg #[.int .i64 0,.int .i64 0,.int .i64 0,.int .i64 0,.bool false,.bool false]).cells 1).toList=[.int .i64 0,.int .i64 0,.int .i64 0,.int .i64 0,.bool false,.bool false]:=by first|kernel_rfl|(simp [Builtin.zeroCells,Value.cells];rfl)
  simp only [Nat.add_zero] at hst
  simp [Builtin.clear_,run_underlying ht,hz',hzc,hst]
 have X:RowKit.Hid (ownsZ W1 74 6 (.slice (some ⟨g,0,none⟩) n c) n ((js.flatMap TJob.cells).take (k*6)++news++(js.flatMap TJob.cells).drop (k*6+news.length))):=own1
 have Y:RowKit.Hid (W1=w.drew.setCells g (k*6) news):=hW1
 have Z:RowKit.Hid (W1=w.drew.setCells g (0+k*6) news):=by rw [Nat.zero_add];exact hW1
 have hkc:k≤c:=by omega
 have hkc1:j≤c:=by omega
 have hkn1:j≤n:=by omega
 have hne:¬ k=j:=by omega
 have hkj:k≤j:=by omega
 have hj1:=zH hj
 clear hj own1 hW1 c1 hget hsome hfz hown hcs ho hr
 have hn1:=zH hn
 clear hn
 go_enter Tryd.func89,Tryd.ntmps89
 go_wp2_with fail
 go_region_law (refine step_append_room rfl (.tmp 22) (.tmp 25) 41 rfl 74 i0 6 ht hi0 hz1 g 0 k c (by simp [Act.eval,Act.put]) A (n - j) (c - j) news (by simp [Act.eval,Act.put]) s0.out hsrc.out s1.out (by omega) s2.out ?_;rw [← Z.out])
 go_wp2
 all_goals go_ret
 replace hj1:=hj1.out
 replace hn1:=hn1.out
 have hz6:=zlen.out
 refine ⟨by rw [show n - 1=k+(n - j) by omega];rfl,?_,?_,fun b hb=>?_,fun B hB=>?_⟩
 ·have o1:=ownZ_cut (ownZ_setCells [.int .i64 0,.int .i64 0,.int .i64 0,.int .i64 0,.bool false,.bool false] ((n - 1)*6) _ _ X.out (by rw [hz6];simp only [List.length_cons,List.length_nil];omega)) (n - 1) (by omega) (by omega)
  rw [hnews,hj1,hn1,del_cells (k:=6) (f:=TJob.cells) (fun _=>rfl) js k hk,← hn1] at o1
  exact o1
 ·rw [setCells_size,Y.out,setCells_size];rfl
 ·rw [setCells_heap _ _ _ _ hb,Y.out,setCells_heap _ _ _ _ hb];rfl
 ·rw [Y.out]
  exact Below.setCells hB _ _ (Below.setCells hB _ _ (Below.drew (Below.refl _ _)))
section
variable {gr gk : Nat} {G : Nat → Nat → Prop} {F : Nat → Prop} {B : Nat} {w : World} {c : TCfg} {S : TCfgS} {m : Int} {d : TDom} {T : TDomS} {k : List (List TWay)} {Ak : Option Addr} {nk : Nat} {ac : List TAct} {Al : Option Addr} {nl : Nat} {now to_ : Int}
theorem Rn.job (h:Rn gr gk G F B w c S m d T k Ak nk ac Al nl now to_){i:Nat}(hi:i < d.jobs.length):∃g,T.a0=some ⟨g,0,none⟩∧G 0 g∧g < w.heap.size∧g≠gr∧g≠gk∧(∀j u,(nth d.jobs i).cells[j]?=some u→w.cell? ⟨g,i*6+j,none⟩=some u)∧(∀o,w.frozen? ⟨g,o,none⟩=false)∧
  ∀j u x',j < 6→TJob.cells x'=(nth d.jobs i).cells.set j u→Rn gr gk G F B (w.setCell ⟨g,i*6+j,none⟩ u) c S m {d with jobs:=d.jobs.set i x'} T k Ak nk ac Al nl now to_∧REff gr gk B F G G w (w.setCell ⟨g,i*6+j,none⟩ u):=by
 obtain ⟨g,e,hG,hg,hc,hf,hset⟩:=h.kp.dom.job hi
 have hap:=h.kp.apart 0 g hG
 refine ⟨g,e,hG,hg,h.grG 0 g hG,hap.1,hc,hf,fun j u x' hj hx=>?_⟩
 have hk:∀b,b≠g→(w.setCell ⟨g,i*6+j,none⟩ u).heap[b]?=w.heap[b]?:=fun b hb=>Below.heap_setCell _ _ _ _ hb
 obtain ⟨h1,h2⟩:=h.kp.turn (hset j u x' hj hx) (hk gk (Ne.symm hap.1)) (Below.setCell (Below.refl _ _) hap.2 _) (by simp) (fun _ _ h=> .inl h) fun b _ _ hn=>hk b fun e=>hn 0 (e ▸ hG)
 exact ⟨h.keeper h1 h2,h2.run⟩
theorem Rn.next (h:Rn gr gk G F B w c S m d T k Ak nk ac Al nl now to_)(x:Int):Rn gr gk G F B (w.setCell ⟨gk,12,none⟩ (.int .i64 x)) c S m {d with next:=x} T k Ak nk ac Al nl now to_∧REff gr gk B F G G w (w.setCell ⟨gk,12,none⟩ (.int .i64 x)):=by
 have hk:∀b,b≠gk→(w.setCell ⟨gk,12,none⟩ (.int .i64 x)).heap[b]?=w.heap[b]?:=fun b hb=>Below.heap_setCell _ _ _ _ hb
 have hlo:=h.kp.lo
 have hK:Kp gk G B (w.setCell ⟨gk,12,none⟩ (.int .i64 x)) c S m {d with next:=x} T:=by
  refine ⟨?_,h.kp.cfg.keep fun b hb=>hk b (by simp only [Low] at hb;omega),?_,h.kp.apart,h.kp.lo⟩
  ·have:=heap_set_same (i:=12) (u:= .int .i64 x) h.kp.blk
   simpa using this
  ·have hD:=h.kp.dom.setCell (p:=⟨gk,12,none⟩) (u:= .int .i64 x) fun i hb=>(h.kp.apart i gk hb).1 rfl
   exact ⟨hD.o0,hD.o1,hD.o2,hD.o3,hD.o4,hD.o5,hD.dis,hD.lt⟩
 have hE:KEff gk B G G w (w.setCell ⟨gk,12,none⟩ (.int .i64 x)):=⟨Below.setCell (Below.refl _ _) hlo _,fun b _ hb _=>hk b hb,fun _ _ h=> .inl h⟩
 exact ⟨h.keeper hK hE,hE.run⟩
theorem Rn.cache (h:Rn gr gk G F B w c S m d T k Ak nk ac Al nl now to_){k':List (List TWay)}{w':World}(hl:k'.length=k.length)(hO:OCache F w' (.slice Ak k'.length nk) k')(hE:Only F w w'):Rn gr gk G F B w' c S m d T k' Ak nk ac Al nl now to_∧REff gr gk B F G G w w':=by
 have zk:=(Go.Proofs.YtinlmkhlgclbfabDoor.blk h.kp.blk).2.2
 have zr:=(Go.Proofs.YtinlmkhlgclbfabDoor.blk h.blk).2.2
 have hB:=h.hB
 have hk:∀b,b < w.heap.size→¬ F b→w'.heap[b]?=w.heap[b]?:=hE.block
 have hkB:∀b,b < B→w'.heap[b]?=w.heap[b]?:=fun b hb=>hk b (by omega) fun hf=>by have:=(h.grF b hf).2.2.1;omega
 have hK:Kp gk G B w' c S m d T:=⟨(hk gk zk fun hf=>(h.grF gk hf).2.1 rfl).trans h.kp.blk,h.kp.cfg.keep fun b hb=>hkB b hb,h.kp.dom.keep (fun i b hb=>hk b (h.kp.dom.lt i b hb) (h.FG i b hb)) hE.size,h.kp.apart,h.kp.lo⟩
 refine ⟨⟨?_,hK,hO,h.acts.keep fun b hb=>hkB b hb,h.grk,h.grG,fun b hb=>⟨(h.grF b hb).1,(h.grF b hb).2.1,(h.grF b hb).2.2.1,Nat.lt_of_lt_of_le (h.grF b hb).2.2.2 hE.size⟩,h.FG,h.lo⟩,⟨⟨hE.os,hE.tape,hE.output,hE.size,hkB⟩,fun b hb _ _ _ hf=>hk b hb hf,fun _ _ h=> .inl h⟩⟩
 rw [hl]
 exact (hk gr zr fun hf=>(h.grF gr hf).1 rfl).trans h.blk
theorem Rn.gone (h:Rn gr gk G F B w c S m d T k Ak nk ac Al nl now to_){i:Nat}(hi:i < d.jobs.length){g:Nat}(hg:T.a0=some ⟨g,0,none⟩){W:World}(hK:KeepN w (fun b=>b=g) W)(hown:ownsZ W 74 6 (.slice (some ⟨g,0,none⟩) (d.jobs.length - 1) T.n0) (d.jobs.length - 1) ((d.jobs.eraseIdx i).flatMap TJob.cells)):
  Rn gr gk G F B (W.setCell ⟨gk,10,none⟩ (.slice (some ⟨g,0,none⟩) (d.jobs.length - 1) T.n0)) c S m {d with jobs:=d.jobs.eraseIdx i} T k Ak nk ac Al nl now to_∧REff gr gk B F G G w (W.setCell ⟨gk,10,none⟩ (.slice (some ⟨g,0,none⟩) (d.jobs.length - 1) T.n0)):=by
 obtain ⟨g',e,hG,hgs,hgr,hgk,_⟩:=h.job hi
 obtain rfl:g=g':=by rw [hg] at e;injection e with e;injection e
 have zk:=(Go.Proofs.YtinlmkhlgclbfabDoor.blk h.kp.blk).2.2
 have hB:=h.hB
 have hlo:=h.kp.lo
 have hap:=h.kp.apart 0 g hG
 have hl:(d.jobs.eraseIdx i).length=d.jobs.length - 1:=List.length_eraseIdx_of_lt hi
 have hb:Below B w W:=⟨hK.2.2.os,hK.2.2.tape,hK.2.2.output,hK.2.1,fun b hb=>hK.1 b (by omega) (by omega)⟩
 have hkW:∀b,b < w.heap.size→b≠g→W.heap[b]?=w.heap[b]?:=fun b hb hne=>hK.1 b hb hne
 have hk:∀b,b < w.heap.size→b≠g→b≠gk→(W.setCell ⟨gk,10,none⟩ (.slice (some ⟨g,0,none⟩) (d.jobs.length - 1) T.n0)).heap[b]?=w.heap[b]?:=fun b hb hne hne2=>heap_set_far (hkW b hb hne) hne2
 have hD:DomO G (W.setCell ⟨gk,10,none⟩ (.slice (some ⟨g,0,none⟩) (d.jobs.length - 1) T.n0)) {d with jobs:=d.jobs.eraseIdx i} T:=by
  have h1:=h.kp.dom
  have hr:∀j b,j≠0→G j b→(W.setCell ⟨gk,10,none⟩ (.slice (some ⟨g,0,none⟩) (d.jobs.length - 1) T.n0)).heap[b]?=w.heap[b]?:=fun j b hj hb=>
   hk b (h1.lt j b hb) (fun e=>h1.dis j 0 b hj hb (e ▸ hG)) (h.kp.apart j b hb).1
  refine ⟨?_,h1.o1.keep (hr 1 · (by omega)),h1.o2.keep (hr 2 · (by omega)),h1.o3.keep (hr 3 · (by omega)),h1.o4.keep (hr 4 · (by omega)),h1.o5.keep (hr 5 · (by omega)),h1.dis,fun j b hb=>by have:=h1.lt j b hb;have:=hK.2.1;simp;omega⟩
  refine ozl_flat.2 ⟨?_,fun b hb=>?_⟩
  ·rw [hg]
   show ownsZ _ _ 6 (.slice _ (d.jobs.eraseIdx i).length _) (d.jobs.eraseIdx i).length _
   rw [hl]
   refine ownZ_keep hown fun b hb=>Below.heap_setCell _ _ _ _ fun e=>?_
   cases hn0:T.n0 with
   |zero=>rw [hn0,rowZ_zero] at hb;cases hb
   |succ n=>rw [rowZ_pos (by omega)] at hb;injection hb with hb;exact hgk (hb.trans e)
  ·rw [hg] at hb
   cases hn0:T.n0 with
   |zero=>rw [hn0,rowZ_zero] at hb;cases hb
   |succ n=>rw [rowZ_pos (by omega)] at hb;injection hb with hb;exact hb ▸ hG
 have hKp:Kp gk G B (W.setCell ⟨gk,10,none⟩ (.slice (some ⟨g,0,none⟩) (d.jobs.length - 1) T.n0)) c S m {d with jobs:=d.jobs.eraseIdx i} T:=by
  refine ⟨?_,h.kp.cfg.keep fun b hb'=>?_,hD,h.kp.apart,hlo⟩
  ·have:=heap_set_same (i:=10) (u:= .slice (some ⟨g,0,none⟩) (d.jobs.length - 1) T.n0) ((hkW gk zk (Ne.symm hgk)).trans h.kp.blk)
   rw [hl,hg]
   simpa using this
  ·have hb':b < B:=hb'
   exact heap_set_far (hb.block b hb') (by simp;omega)
 have hE:KEff gk B G G w (W.setCell ⟨gk,10,none⟩ (.slice (some ⟨g,0,none⟩) (d.jobs.length - 1) T.n0)):=⟨Below.setCell hb hlo _,fun b hb hne hn=>hk b hb (fun e=>hn 0 (e ▸ hG)) hne,fun _ _ h=> .inl h⟩
 exact ⟨h.keeper hKp hE,hE.run⟩
end
end
section
set_option maxRecDepth 100000
set_option maxHeartbeats 8000000
section
variable {gr gk : Nat} {G : Nat → Nat → Prop} {F : Nat → Prop} {B : Nat} {w : World} {c : TCfg} {S : TCfgS} {m : Int} {d : TDom} {T : TDomS} {k : List (List TWay)} {Ak : Option Addr} {nk : Nat} {ac : List TAct} {Al : Option Addr} {nl : Nat} {now to_ : Int}
def DoM (gr gk:Nat) (G:Nat→Nat→Prop) (F:Nat→Prop) (B:Nat) (w:World) (c:TCfg) (S:TCfgS) (m:Int) (A0:Option Addr) (k:List (List TWay)) (Ak:Option Addr) (nk:Nat) (ac:List TAct) (Al:Option Addr) (nl:Nat) (to_:Int) (a:TAct) (d:TDom) (now:Int) (W:World):Prop:=
 ∃G' T',T'.a0=A0∧Rn gr gk G' F B W c S m d T' k Ak nk ac Al nl now to_∧REff gr gk B F G G' w W∧W.heap[w.heap.size]?=some (.cells #[.int .i64 a.kind,.int .i64 a.n,.int .i64 a.value] 52 (0,0))∧gr < w.heap.size∧gk < w.heap.size∧(∀i,¬ G' i w.heap.size)∧¬ F w.heap.size
variable {A0 : Option Addr} {a : TAct} {W : World}
theorem DoM.turn {d':TDom}{G2:Nat→Nat→Prop}{G':Nat→Nat→Prop}{T' T2:TDomS}{k2:List (List TWay)}{now2:Int}{W2:World}(h0:T2.a0=A0)(hR:Rn gr gk G2 F B W2 c S m d' T2 k2 Ak nk ac Al nl now2 to_)(hE:REff gr gk B F G' G2 W W2)(h:T'.a0=A0∧Rn gr gk G' F B W c S m d T' k Ak nk ac Al nl now to_∧REff gr gk B F G G' w W∧W.heap[w.heap.size]?=some (.cells #[.int .i64 a.kind,.int .i64 a.n,.int .i64 a.value] 52 (0,0))∧gr < w.heap.size∧gk < w.heap.size∧(∀i,¬ G' i w.heap.size)∧¬ F w.heap.size):
  DoM gr gk G F B w c S m A0 k2 Ak nk ac Al nl to_ a d' now2 W2:=by
 obtain ⟨_,_,hE0,hx,h1,h2,h3,h4⟩:=h
 have hz:=(blk hx).2.2
 refine ⟨G2,T2,h0,hR,hE0.trans hE,(hE.keep _ hz (by omega) (by omega) h3 h4).trans hx,h1,h2,fun i hi=>?_,h4⟩
 rcases hE.grow i _ hi with h5|h5
 ·exact h3 i h5
 ·omega
theorem DoM.ext (h:DoM gr gk G F B w c S m A0 k Ak nk ac Al nl to_ a d now W){W2:World}(hb:Below W.heap.size W W2):DoM gr gk G F B w c S m A0 k Ak nk ac Al nl to_ a d now W2:=by
 obtain ⟨G',T',h⟩:=h
 exact DoM.turn h.1 (h.2.1.ext hb) (REff.ext h.2.1.hB hb) h
theorem DoM.tell (h:DoM gr gk G F B w c S m A0 k Ak nk ac Al nl to_ a d now W)(t kd x y:Int)(hn:d.events.length+1≤4398046511104):
  Calls Tryd.prog 82 #[.pointer (some ⟨gk,0,none⟩),.int .i64 t,.int .i64 kd,.int .i64 x,.int .i64 y] W fun e w'=>e= .returned (.tuple #[])∧DoM gr gk G F B w c S m A0 k Ak nk ac Al nl to_ a (tellOf d t kd x y) now w':=by
 obtain ⟨G',T',h⟩:=h
 refine (runnerTell h.2.1 t kd x y hn).mono ?_
 rintro e w' ⟨he,G2,T2,h0,hR,hE⟩
 exact ⟨he,DoM.turn (h0.trans h.1) hR hE h⟩
theorem DoM.setJob {gj:Nat}(h:DoM gr gk G F B w c S m (some ⟨gj,0,none⟩) k Ak nk ac Al nl to_ a d now W){i:Nat}(hi:i < d.jobs.length):gj < W.heap.size∧gj≠gr∧gj≠gk∧(∀j u,(nth d.jobs i).cells[j]?=some u→W.cell? ⟨gj,i*6+j,none⟩=some u)∧(∀o,W.frozen? ⟨gj,o,none⟩=false)∧
  ∀j u x',j < 6→TJob.cells x'=(nth d.jobs i).cells.set j u→DoM gr gk G F B w c S m (some ⟨gj,0,none⟩) k Ak nk ac Al nl to_ a {d with jobs:=d.jobs.set i x'} now (W.setCell ⟨gj,i*6+j,none⟩ u):=by
 obtain ⟨G',T',h⟩:=h
 obtain ⟨g,e,hG,hg,h1,h2,hc,hf,hset⟩:=h.2.1.job hi
 obtain rfl:gj=g:=by rw [h.1] at e;injection e with e;injection e
 exact ⟨hg,h1,h2,hc,hf,fun j u x' hj hx=>DoM.turn h.1 (hset j u x' hj hx).1 (hset j u x' hj hx).2 h⟩
theorem DoM.next (h:DoM gr gk G F B w c S m A0 k Ak nk ac Al nl to_ a d now W)(x:Int):DoM gr gk G F B w c S m A0 k Ak nk ac Al nl to_ a {d with next:=x} now (W.setCell ⟨gk,12,none⟩ (.int .i64 x)):=by
 obtain ⟨G',T',h⟩:=h
 exact DoM.turn h.1 (h.2.1.next x).1 (h.2.1.next x).2 h
theorem DoM.time (h:DoM gr gk G F B w c S m A0 k Ak nk ac Al nl to_ a d now W)(x:Int):DoM gr gk G F B w c S m A0 k Ak nk ac Al nl to_ a d x (W.setCell ⟨gr,3,none⟩ (.int .i64 x)):=by
 obtain ⟨G',T',h⟩:=h
 exact DoM.turn h.1 (h.2.1.time x).1 (h.2.1.time x).2 h
theorem DoM.blocks (h:DoM gr gk G F B w c S m A0 k Ak nk ac Al nl to_ a d now W):∃T':TDomS,T'.a0=A0∧W.heap[gr]?=some (.cells #[.pointer (some ⟨gk,0,none⟩),.slice Ak k.length nk,.slice Al ac.length nl,.int .i64 now,.int .i64 to_] 138 (0,0))∧W.heap[gk]?=some (.cells #[.int .i64 c.sets,.int .i64 c.ways,.int .i64 c.doms,.int .i64 c.pad,.int .i64 c.quantum,.slice S.a0 c.slots.length S.n0,.slice S.a1 c.owners.length S.n1,.slice S.a2 c.chans.length S.n2,.slice S.a3 c.tasks.length S.n3,.int .i64 m,.slice T'.a0 d.jobs.length T'.n0,.slice T'.a1 d.released.length T'.n1,.int .i64 d.next,.slice T'.a2 d.ins.length T'.n2,.slice T'.a3 d.taken.length T'.n3,.slice T'.a4 d.outs.length T'.n4,.slice T'.a5 d.events.length T'.n5] 136 (0,0))∧W.heap[w.heap.size]?=some (.cells #[.int .i64 a.kind,.int .i64 a.n,.int .i64 a.value] 52 (0,0)):=by
 obtain ⟨G',T',h⟩:=h
 exact ⟨T',h.1,h.2.1.blk,h.2.1.kp.blk,h.2.2.2.1⟩
theorem runnerHappen (h:Rn gr gk G F B w c S m d T k Ak nk ac Al nl now to_)(hc:CfgOk c){i:Nat}(hd:DomOkI c m i d)(a:TAct)(ha:ActOk a)(cost:Int)(hr:refusedA c m a=false)(hnow:0≤now∧now≤1000000)(hn:d.events.length+1≤4398046511104)(ho:∀j,j < d.outs.length→(nth d.outs j).length+1≤4398046511104):
  Calls Tryd.prog 88 #[.pointer (some ⟨gr,0,none⟩),.agg #[.int .i64 a.kind,.int .i64 a.n,.int .i64 a.value],.int .i64 cost] w (RetRn gr gk G F B w c S m (happenA c now a cost d) T.a0 k Ak nk ac Al nl now to_):=by
 have h1:=ha.kind
 have hnm:=ha.name
 have hq:=hc.quantum
 by_cases k3:a.kind≤3
 ·exact runnerHappen_tell h a ha cost k3 hn
 by_cases k4:a.kind=4
 ·have h0:=hnm (.inl k4)
  unfold refusedA at hr
  rw [if_pos k4,Bool.or_eq_false_iff] at hr
  have h2:=hr.1
  simp only [decide_eq_false_iff_not] at h2
  have hlt:a.n.toNat < d.outs.length:=by rw [hd.lout];omega
  exact runnerHappen_four h a ha cost k4 hlt hn (ho _ hlt)
 by_cases k5:a.kind=5
 ·have h0:=hnm (.inr (.inl k5))
  unfold refusedA at hr
  rw [if_neg k4,if_pos k5,Bool.or_eq_false_iff] at hr
  have h2:=hr.1
  simp only [decide_eq_false_iff_not] at h2
  have hlt:a.n.toNat < d.ins.length:=by rw [hd.lin];omega
  have h3:=(checkRing_zero.1 (hd.ring _ hlt))
  exact runnerHappen_five h a ha cost k5 hlt hn (by omega)
 by_cases k6:a.kind=6
 ·exact runnerHappen_six h a ha cost k6 (by omega) hnow.1 hnow.2 hn
 by_cases k7:a.kind=7
 ·have h0:=hnm (.inr (.inr k7))
  unfold refusedA at hr
  rw [if_neg k4,if_neg k5,if_pos k7,Bool.or_eq_false_iff] at hr
  have h2:=hr.1
  simp only [decide_eq_false_iff_not] at h2
  exact runnerHappen_seven h a ha cost k7 (by rw [hd.ltak];omega) hn
 exact runnerHappen_eight h a ha cost (by omega)
theorem DoM.happen (h:DoM gr gk G F B w c S m A0 k Ak nk ac Al nl to_ a d now W)(hc:CfgOk c){i:Nat}(hd:DomOkI c m i d)(ha:ActOk a)(cost:Int)(hr:refusedA c m a=false)(hnow:0≤now∧now≤1000000)(hn:d.events.length+1≤4398046511104)(ho:∀j,j < d.outs.length→(nth d.outs j).length+1≤4398046511104):
  Calls Tryd.prog 88 #[.pointer (some ⟨gr,0,none⟩),.agg #[.int .i64 a.kind,.int .i64 a.n,.int .i64 a.value],.int .i64 cost] W fun e w'=>e= .returned (.tuple #[])∧DoM gr gk G F B w c S m A0 k Ak nk ac Al nl to_ a (happenA c now a cost d) now w':=by
 obtain ⟨G',T',h⟩:=h
 refine (runnerHappen h.2.1 hc hd a ha cost hr hnow hn ho).mono ?_
 rintro e w' ⟨he,G2,T2,h0,hR,hE⟩
 exact ⟨he,DoM.turn (h0.trans h.1) hR hE h⟩
theorem DoM.refused (h:DoM gr gk G F B w c S m A0 k Ak nk ac Al nl to_ a d now W)(hc:CfgOk c)(ha:ActOk a):
  Calls Tryd.prog 87 #[.pointer (some ⟨gr,0,none⟩),.agg #[.int .i64 a.kind,.int .i64 a.n,.int .i64 a.value]] W fun e w'=>e= .returned (.bool (refusedA c m a))∧DoM gr gk G F B w c S m A0 k Ak nk ac Al nl to_ a d now w':=by
 have h':=h
 obtain ⟨G',T',h⟩:=h
 refine (runnerRefused h.2.1 hc a ha).mono ?_
 rintro e w' ⟨he,hb⟩
 exact ⟨he,h'.ext hb⟩
theorem DoM.spend (h:DoM gr gk G F B w c S m A0 k Ak nk ac Al nl to_ a d now W)(ok:CacheOk k)(ha:ActOk a):
  Calls Tryd.prog 86 #[.agg #[.slice Ak k.length nk],.agg #[.int .i64 a.kind,.int .i64 a.n,.int .i64 a.value]] W fun e w'=>e= .returned (.int .i64 (spendN k a))∧DoM gr gk G F B w c S m A0 (spendK k a) Ak nk ac Al nl to_ a d now w':=by
 obtain ⟨G',T',h⟩:=h
 refine (windowSpend k ok a ha Ak nk F W h.2.1.own fun b hb=>(h.2.1.grF b hb).2.2.2).mono ?_
 rintro e w' ⟨he,hO,hE⟩
 have hR:=h.2.1.cache (spendK_len k a) (by rw [spendK_len];exact hO) hE
 exact ⟨he,DoM.turn h.1 hR.1 hR.2 h⟩
theorem DoM.start (h:Rn gr gk G F B w c S m d T k Ak nk ac Al nl now to_)(hx:W.heap[w.heap.size]?=some (.cells #[.int .i64 a.kind,.int .i64 a.n,.int .i64 a.value] 52 (0,0)))(hb:Below w.heap.size w W):DoM gr gk G F B w c S m T.a0 k Ak nk ac Al nl to_ a d now W:=
 ⟨G,T,rfl,h.ext hb,REff.ext h.hB hb,hx,(Go.Proofs.YtinlmkhlgclbfabDoor.blk h.blk).2.2,(Go.Proofs.YtinlmkhlgclbfabDoor.blk h.kp.blk).2.2,fun i hi=>Nat.lt_irrefl _ (h.kp.dom.lt i _ hi),fun hf=>Nat.lt_irrefl _ (h.grF _ hf).2.2.2⟩
end
end
end Go.Proofs.YtinlmkhlgclbfabDoor
