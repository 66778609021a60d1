/- OnlyB to RdNew -/
import Derived.Test.YtinlmkhlgclbfabDoorAs41
section
namespace Go.Proofs.YtinlmkhlgclbfabDoor
open Go.RowKit
set_option maxRecDepth 100000
set_option maxHeartbeats 4000000
def oArr:OCod TArr:=OCod.flat 2 TArr.cells (fun _=>rfl)
theorem tyArr:TyS Tryd.prog 29 86 (.agg #[.int .i64 0,.int .i64 0]) 2 16:=⟨Tryd.underlying29,info_of (by kernel_rfl),rfl,by decide⟩
def RetScr (sc:TScr) (w:World) (e:Ending) (w':World):Prop:=∃Z,e= .returned (.agg #[.slice Z.a0 sc.actions.length Z.n0,.slice Z.a1 sc.arrivals.length Z.n1,.int .i64 sc.rounds])∧TScr.At (Rng w.heap.size w'.heap.size) w' sc Z∧Below w.heap.size w w'
def actTo (c:TCfg) (sc:TScr) (d i:Nat):List (List TAct):=(List.range i).map fun k=>if reaches c k d then nth sc.actions k else []
theorem actTo_snoc (c:TCfg)(sc:TScr)(d i:Nat):actTo c sc d (i+1)=actTo c sc d i++[if reaches c i d then nth sc.actions i else []]:=by unfold actTo;rw [List.range_succ,List.map_append];rfl
theorem actTo_len (c:TCfg)(sc:TScr)(d i:Nat):(actTo c sc d i).length=i:=by simp [actTo]
structure OnlyI (c:TCfg) (sc:TScr) (d:Nat) (NN gb:Nat) (Ax:Option Addr) (nx:Nat) (W2:World) (j:Nat) (A:Option Addr) (n:Nat) (ys:List TArr) (wr:World):Prop where
 le:j≤sc.arrivals.length
 eq:ys=(sc.arrivals.take j).filter (arrTo c d)
 own:OZl oArr 86 (Rng NN wr.heap.size) wr (.slice A ys.length n) ys
 box:wr.heap[gb]?=some (.cells #[.slice Ax sc.actions.length nx,.slice A ys.length n,.int .i64 sc.rounds] 31)
 eff:MEff (fun b=>NN≤b∨b=gb) W2 wr
def OnlyJ (c:TCfg) (sc:TScr) (d:Nat) (NN gb:Nat) (Ax:Option Addr) (nx:Nat) (W2:World) (j:Nat) (wr:World):Prop:=∃A n ys,OnlyI c sc d NN gb Ax nx W2 j A n ys wr
theorem OnlyI.skip {c:TCfg}{sc:TScr}{d:Nat}{NN gb:Nat}{Ax:Option Addr}{nx:Nat}{W2:World}{j:Nat}{A:Option Addr}{n:Nat}{ys:List TArr}{wr W:World}(h:OnlyI c sc d NN gb Ax nx W2 j A n ys wr)(hlt:j < sc.arrivals.length)(hn:arrTo c d (nth sc.arrivals j)=false)(hb:Below wr.heap.size wr W):OnlyJ c sc d NN gb Ax nx W2 (j+1) W:=
 ⟨A,n,ys,hlt,by rw [take_snoc hlt,List.filter_append,← h.eq];simp [hn],OZl.mono (OZl.keep h.own fun b hx=>hb.block b hx.2) fun b hx=>⟨hx.1,Nat.lt_of_lt_of_le hx.2 hb.size⟩,(hb.block _ (blk h.box).2.2).trans h.box,h.eff.trans (M':=fun _=>False) (MEff.ofBelow hb) fun _ e=>e.elim⟩
theorem OnlyI.take {c:TCfg}{sc:TScr}{d:Nat}{NN gb:Nat}{Ax:Option Addr}{nx:Nat}{W2:World}{j:Nat}{A A':Option Addr}{n n':Nat}{ys:List TArr}{wr W W':World}(h:OnlyI c sc d NN gb Ax nx W2 j A n ys wr)(hlt:j < sc.arrivals.length)(hn:arrTo c d (nth sc.arrivals j)=true)(hg:gb < NN)(hz:NN≤wr.heap.size)(hb:Below wr.heap.size wr W)
  (own:ownsZ W' 86 2 (.slice A' (ys.length+1) n') (ys.length+1) (ys.flatMap TArr.cells++(nth sc.arrivals j).cells)) (gr:W.grownBy W' (rowZ (.slice A ys.length n))) (at_:∀b,rowZ (.slice A' (ys.length+1) n')=some b→rowZ (.slice A ys.length n)=some b∨b=W.heap.size):
  OnlyJ c sc d NN gb Ax nx W2 (j+1) (W'.setCell ⟨gb,1,none⟩ (.slice A' (ys.length+1) n')):=by
 have hrow:∀b,rowZ (.slice A ys.length n)=some b→NN≤b∧b < wr.heap.size:=(ozl_flat.1 h.own).2
 have kp:∀b,b≠gb→(W'.setCell ⟨gb,1,none⟩ (.slice A' (ys.length+1) n')).heap[b]?=W'.heap[b]?:=fun b hb=>Below.heap_setCell _ _ _ _ hb
 have hzb:=hb.size
 have hzg:=gr.size
 have hE:MEff (fun b=>rowZ (.slice A ys.length n)=some b) W W':=⟨Below.grown (Below.refl _ _) gr (Nat.zero_le _) fun _ _=>Nat.zero_le _,fun b hb hn=>gr.block b hb fun e=>hn e.symm⟩
 have hx:W'.heap[gb]?=some (.cells #[.slice Ax sc.actions.length nx,.slice A ys.length n,.int .i64 sc.rounds] 31):=(hE.keep gb (by omega) fun e=>by have:=hrow _ e;omega).trans ((hb.block _ (by omega)).trans h.box)
 refine ⟨A',n',ys++[nth sc.arrivals j],hlt,by rw [take_snoc hlt,List.filter_append,← h.eq];simp [hn],?_,?_,?_⟩
 ·rw [World.size_setCell,List.length_append]
  refine OZl.keep (w:=W') (ozl_flat.2 ⟨by rw [List.flatMap_append,List.length_append];simpa using own,fun b hx=>?_⟩) fun b hx=>kp b (by have:=hx.1;omega)
  have hl:=ownZ_lt own b hx
  rcases at_ b hx with e|e
  ·exact ⟨(hrow b e).1,hl⟩
  ·exact ⟨by omega,hl⟩
 ·have:=heap_set_same (i:=1) (u:= .slice A' (ys.length+1) n') hx
  rw [List.length_append]
  simpa using this
 ·exact ((h.eff.trans (M':=fun _=>False) (MEff.ofBelow hb) fun _ e=>e.elim).trans hE fun b hb=> .inl (.inl (hrow b hb).1)).far (Below.setCell (Below.refl _ _) (Nat.zero_le _) _) kp (.inl (.inr rfl))
theorem apartOnly0 (c:TCfg)(S:TCfgS)(sc:TScr)(Z:TScrS)(h:ScrOk c sc)(d:Nat)(hd:d < c.doms.toNat)(B:Nat)(w:World)(hB:B≤w.heap.size)(hs:TCfg.At (Low B) w c S)(hz:TScr.At (Low B) w sc Z):
  Calls Tryd.prog 21 #[.agg #[.int .i64 c.sets,.int .i64 c.ways,.int .i64 c.doms,.int .i64 c.pad,.int .i64 c.quantum,.slice S.a0 c.slots.length S.n0,.slice S.a1 c.owners.length S.n1,.slice S.a2 c.chans.length S.n2,.slice S.a3 c.tasks.length S.n3],.agg #[.slice Z.a0 sc.actions.length Z.n0,.slice Z.a1 sc.arrivals.length Z.n1,.int .i64 sc.rounds],.int .i64 (d:Nat)] w (RetScr (onlyOf c sc d) w):=by
 have H1:=zH (fun W (hb:Below w.heap.size w W)=>configReaches c h.cfg S B W (Nat.le_trans hB hb.size) (hs.next hB hb))
 have hdm:=h.cfg.doms
 have hal:=h.len
 have har:=h.arrs
 have hac:=h.acts
 have hown:=h.cfg.owner
 have hrl:(reachRows c).length=c.doms.toNat:=rowsTo_length _ _
 have hrr:∀k,k < c.doms.toNat→(nth (reachRows c) k).length=c.doms.toNat∧nth (nth (reachRows c) k) d=reaches c k d:=fun k hk=>by
  rw [show nth (reachRows c) k=reachRow c k from rowsTo_at hk];exact ⟨reachRow_length c k,rfl⟩
 generalize hRR:reachRows c=RR at*
 have hok:=zH h
 replace hRR:=zH hRR
 replace hac:=zH hac
 replace har:=zH har
 replace hown:=zH hown
 replace hrr:=zH hrr
 replace hal:=zH hal
 replace hrl:=zH hrl
 clear h
 obtain ⟨Za,Zn,Zb,Zm⟩:=Z
 obtain ⟨hz0,hz1'⟩:=hz
 dsimp only at hz0 hz1'⊢
 (obtain ⟨a0,n0,a1,n1,a2,n2,a3,n3⟩:=S;obtain ⟨hs0,hs1,hs2,hs3⟩:=hs;dsimp only at hs0 hs1 hs2 hs3⊢)
 go_enter Tryd.func21,Tryd.ntmps21
 go_wp2_with fail
 go_at_call 37
 refine (H1.out _ byB).mono ?_
 rintro e w1 ⟨Ar,nr,rfl,hR,hb1⟩
 have hb01:Below w.heap.size w w1:=byB
 have kc:w1.heap[w.heap.size]?=some (.cells #[.int .i64 c.sets,.int .i64 c.ways,.int .i64 c.doms,.int .i64 c.pad,.int .i64 c.quantum,.slice a0 c.slots.length n0,.slice a1 c.owners.length n1,.slice a2 c.chans.length n2,.slice a3 c.tasks.length n3] 27):=(hb1.block _ byS).trans byH
 have kz:w1.heap[w.heap.size+1]?=some (.cells #[.slice Za sc.actions.length Zn,.slice Zb sc.arrivals.length Zm,.int .i64 sc.rounds] 31):=(hb1.block _ byS).trans byH
 have kr:w1.heap[w.heap.size+2]?=some (.cells #[.slice none 0 0,.slice none 0 0,.int .i64 0] 31):=(hb1.block _ byS).trans byH
 obtain ⟨ccc,fcc,zcc⟩:=blk kc
 obtain ⟨czz,fzz,zzz⟩:=blk kz
 have hz1:=hb1.size
 simp at hz1
 have hR1:Sl cBool.slice (Rng (w.heap.size+3) w1.heap.size) w1 Ar nr RR:=hR.mono fun b hb=>⟨by have:=hb.1;simp at this;omega,hb.2⟩
 have hbox:(w1.alloc (.cells #[.slice none 0 0,.slice none 0 0,.int .i64 sc.rounds] 31)).heap[w1.heap.size]?=some (.cells #[.slice none 0 0,.slice none 0 0,.int .i64 sc.rounds] 31):=heap_alloc_new _ _
 have hbw:Below w1.heap.size w1 (w1.alloc (.cells #[.slice none 0 0,.slice none 0 0,.int .i64 sc.rounds] 31)):=byB
 have hwz:(w1.alloc (.cells #[.slice none 0 0,.slice none 0 0,.int .i64 sc.rounds] 31)).heap.size=w1.heap.size+1:=by simp
 clear H1 hb1 hR
 go_wp2_with fail
 clear ccc fcc czz fzz
 generalize (w1.alloc (.cells #[.slice none 0 0,.slice none 0 0,.int .i64 sc.rounds] 31))=W1 at*
 obtain ⟨gb,hgb⟩:∃g,g=w1.heap.size:=⟨_,rfl⟩
 rw [← hgb] at hbox hwz⊢
 have hwl:w1.heap.size≤gb:=by omega
 have kc1:=(hbw.block _ zcc).trans kc
 have kz1:=(hbw.block _ zzz).trans kz
 have kr1:=(hbw.block _ (by omega)).trans kr
 have hb0W:Below w.heap.size w W1:=hb01.trans (hbw.mono (by omega))
 have hR2:Sl cBool.slice (Rng (w.heap.size+3) gb) W1 Ar nr RR:=(hR1.keep fun b hb=>hbw.block b hb.2).mono fun b hb=>⟨hb.1,by have:=hb.2;omega⟩
 have hg3:w.heap.size+3≤gb:=by omega
 replace hgb:=zH hgb
 clear hbw hR1 hb01 kc kz kr zcc zzz hz1 hwl
 go_loopw [21] (fun iv wr=>∃(i:Nat) (A:Option Addr) (n:Nat),i≤sc.actions.length∧iv= .int .i64 i∧Hid (OZl oActs 53 (Rng (gb+1) wr.heap.size) wr (.slice A i n) (actTo c sc d i))∧wr.heap[gb]?=some (.cells #[.slice A i n,.slice none 0 0,.int .i64 sc.rounds] 31)∧MEff (fun b=>gb+1≤b∨b=gb) W1 wr) (fun iv _=>sc.actions.length - (intOf iv).toNat)
 case atStart=>exact ⟨0,none,0,Nat.zero_le _,rfl,zH (OZl.nil _ _ _ _),hbox,MEff.refl _ _⟩
 case round=>
  obtain ⟨i,A,n,hi,rfl,hO,hbx,hE⟩:=hrel
  have hzr:=hE.below.size
  have hbr:Below gb W1 wr:=hE.low (by omega) fun b hb=>by omega
  have hbwr:Below w.heap.size w wr:=hb0W.trans (hbr.mono (by omega))
  by_cases hlt:i < sc.actions.length
  ·have hal1:=hal.out
   have hrl1:=hrl.out
   have hi0:(0:Int)≤i:=by omega
   have hi1:(i:Int) < sc.actions.length:=by omega
   have hd0:(0:Int)≤d:=by omega
   have hiD:i < c.doms.toNat:=by omega
   have hrA:=hrr.out i hiD
   obtain ⟨bA,oA,A9,c9,rfl,hIA,ka,hA9⟩:=(hz0.next hB hbwr).at_slice hlt
   obtain ⟨bR,oR,A8,c8,rfl,hIR,kR,hR8⟩:=(hR2.keep fun b hb=>hbr.block b hb.2).at_slice (k:=i) (by omega)
   obtain ⟨bD,oD,rfl,hID,kD⟩:=hR8.at_bool (k:=d) (by rw [hrA.1];exact hd)
   rw [hrA.2] at kD
   have hd1:(d:Int) < (nth RR i).length:=by rw [hrA.1];omega
   have hi2:(i:Int) < RR.length:=by omega
   have hsn:=actTo_snoc c sc d i
   have hal4:i < 4:=by omega
   have hv60:=(hac.out i hlt).1
   have hxl:=zH (actTo_len c sc d i)
   have hgN:Hid (gb < gb+1):=zH (by omega)
   have hNz:Hid (gb+1≤wr.heap.size):=zH (by omega)
   have hBr:B≤wr.heap.size:=by omega
   replace hE:=zH hE
   have hbx2:=hbx
   replace hbx2:=zH hbx2
   by_cases hre:reaches c i d=true
   ·rw [if_pos hre] at hsn
    rw [hre] at kD
    clear hbx hre hal1 hrl1
    go_wp2_with fail
    refine onlyR8 _ (by kernel_rfl) hBr hgN hNz hxl hal4 hv60 hbx2.out hO hA9 ?_
    intro _ _ _ _ _ _ _ A' c' W' hO' hbx' hE'
    rw [← hsn] at hO'
    have hE2:=hE.out.trans hE' fun b hb=> .inl hb
    replace hO':=zH hO'
    replace hE2:=zH hE2
    clear hE' hO hE hbx2 hbr hbwr
    go_wp2_with fail
    go_roundw
    case rel=>exact ⟨i+1,A',c',by omega,by go_num,hO',hbx',hE2.out⟩
    case measure=>simp [intOf];omega
   ·rw [if_neg hre] at hsn
    rw [show reaches c i d=false by simpa using hre] at kD
    clear hbx hre hal1 hrl1
    go_wp2_with fail
    refine onlyR8 (vs:=[]) (A9:=none) (c9:=0) _ (by kernel_rfl) hBr hgN hNz hxl hal4 (by simp) hbx2.out hO (Sl.empty _ _ _) ?_
    intro _ _ _ _ _ _ _ A' c' W' hO' hbx' hE'
    rw [← hsn] at hO'
    have hE2:=hE.out.trans hE' fun b hb=> .inl hb
    replace hO':=zH hO'
    replace hE2:=zH hE2
    clear hE' hO hE hbx2 hbr hbwr
    go_wp2_with fail
    go_roundw
    case rel=>exact ⟨i+1,A',c',by omega,by go_num,hO',hbx',hE2.out⟩
    case measure=>simp [intOf];omega
  ·obtain rfl:i=sc.actions.length:=by omega
   obtain ⟨NN,hNN⟩:∃x,x=wr.heap.size:=⟨_,rfl⟩
   have hO1:=OZl.mono (G:=Rng (gb+1) NN) hO.out fun b hb=>⟨hb.1,by have:=hb.2;omega⟩
   have kc2:=(hbr.block _ (by omega)).trans kc1
   have kz2:=(hbr.block _ (by omega)).trans kz1
   have kr2:=(hbr.block _ (by omega)).trans kr1
   have hR3:=hR2.keep fun b hb=>hbr.block b hb.2
   have hz2:=hz1'.next hB hbwr
   have hsO:=hs1.next hB hbwr
   have hNg:gb+1≤NN:=by omega
   obtain ⟨Ax,hAx⟩:∃x,x=A:=⟨_,rfl⟩
   obtain ⟨nx,hnx⟩:∃x,x=n:=⟨_,rfl⟩
   rw [← hAx,← hnx] at hO1 hbx
   replace hNN:=zH hNN
   replace hO1:=zH hO1
   obtain ⟨W2,hW2⟩:∃x,x=wr:=⟨_,rfl⟩
   rw [← hW2] at hO1 hbx kc2 kz2 kr2 hR3 hz2 hsO hbwr hNN hzr⊢
   clear hO hE hbr hAx hnx hW2 kc1 kz1 kr1 hR2 hbox
   obtain ⟨cz,fz,zz⟩:=blk kz2
   obtain ⟨cb,fb,zb⟩:=blk hbx
   go_wp2_with fail
   clear cz fz cb fb
   go_loopw [45] (fun iv wr=>∃(j:Nat),iv= .int .i64 j∧OnlyJ c sc d NN gb Ax nx W2 j wr) (fun iv _=>sc.arrivals.length - (intOf iv).toNat)
   case atStart=>exact ⟨0,rfl,none,0,[],Nat.zero_le _,rfl,OZl.nil _ _ _ _,hbx,MEff.refl _ _⟩
   case round=>
    obtain ⟨j,rfl,A,n,ys,hI⟩:=hrel
    have hj:=hI.le
    have hzr3:=hI.eff.below.size
    have hbr:Below gb W2 wr:=hI.eff.low (by omega) fun b hb=>by omega
    have hbwr2:Below w.heap.size w wr:=hbwr.trans (hbr.mono (by omega))
    have kc3:=(hbr.block _ (by omega)).trans kc2
    have kr3:=(hbr.block _ (by omega)).trans kr2
    by_cases hlt:j < sc.arrivals.length
    ·as_aux_lemma=>
     have hal1:=hal.out
     have hrl1:=hrl.out
     have hj0:(0:Int)≤j:=by omega
     have hj1:(j:Int) < sc.arrivals.length:=by omega
     have ha:=har.out.2 j hlt
     obtain ⟨ln,hln⟩:=Int.eq_ofNat_of_zero_le ha.2.2.1
     have hlo:ln < c.owners.length:=by omega
     have how:=hown.out ln hlo
     obtain ⟨ow,hwo⟩:=Int.eq_ofNat_of_zero_le how.1
     have hoD:ow < c.doms.toNat:=by omega
     have hrA:=hrr.out ow hoD
     obtain ⟨bA,oA,rfl,hIA,ka0,ka1⟩:=(hz2.keep fun b hb=>hbr.block b (by have hb':b < B:=hb;omega)).at_arr hlt
     obtain ⟨bO,oO,rfl,hIO,kO⟩:=(hsO.keep fun b hb=>hbr.block b (by have hb':b < B:=hb;omega)).at_int hlo
     obtain ⟨bR,oR,A8,c8,rfl,hIR,kR,hR8⟩:=(hR3.keep fun b hb=>hbr.block b hb.2).at_slice (k:=ow) (by omega)
     obtain ⟨bD,oD,rfl,hID,kD⟩:=hR8.at_bool (k:=d) (by rw [hrA.1];exact hd)
     rw [hrA.2] at kD
     rw [hln] at ka1
     rw [hwo] at kO
     have hd0:(0:Int)≤d:=by omega
     have hd1:(d:Int) < (nth RR ow).length:=by rw [hrA.1];omega
     have hl0:(0:Int)≤ln:=by omega
     have hl1:(ln:Int) < c.owners.length:=by omega
     have ho0:(0:Int)≤ow:=by omega
     have ho1:(ow:Int) < RR.length:=by omega
     have hto:arrTo c d (nth sc.arrivals j)=reaches c ow d:=by unfold arrTo;rw [hln];show reaches c (nth c.owners ln).toNat d=_;rw [hwo];rfl
     have hx:(nth sc.arrivals j).cells=[.int .i64 (nth sc.arrivals j).t,.int .i64 (ln:Nat)]:=by unfold TArr.cells;rw [hln]
     have hbx3:=hI.box
     have hy40:ys.length≤40:=by rw [hI.eq];exact Nat.le_trans (List.length_filter_le _ _) (by rw [List.length_take];have:=har.out.1;omega)
     have lO:bO < wr.heap.size:=by have hb':bO < B:=hIO;omega
     have lR:bR < wr.heap.size:=Nat.lt_of_lt_of_le hIR.2 (by omega)
     have lD:bD < wr.heap.size:=Nat.lt_of_lt_of_le hID.2 (by omega)
     have h40:=har.out.1
     obtain ⟨hown0,hrow0⟩:=ozl_flat.1 hI.own
     have hown1:ownsZ wr 86 2 (.slice A ys.length n) ys.length (ys.flatMap TArr.cells):=hown0
     replace hown1:=zH hown1
     replace hrow0:Hid (∀b,rowZ (.slice A ys.length n)=some b→NN≤b∧b < wr.heap.size):=zH hrow0
     have hlz:Hid (NN≤wr.heap.size∧gb < NN):=zH (by have:=hNN.out;omega)
     have hHI:=zH (⟨hI,hlt,hto,hx⟩:_∧_∧_∧_)
     obtain ⟨ccc,fcc,zcc⟩:=blk kc3
     obtain ⟨cb,fb,zb⟩:=blk hbx3
     clear hI hown0 hto hx ha hln how hwo hoD hrA hal1 hrl1
     generalize (nth sc.arrivals j).t=av at*
     by_cases hre:reaches c ow d=true
     ·as_aux_lemma=>
      rw [hre] at kD
      have hre':=zH hre
      clear hre
      go_wp2_with (at_builtin;refine wpList_appZ rfl (.tmp 62) (.tmp 64) _ rfl tyArr (.slice A ys.length n) ys.length (ys.flatMap TArr.cells) (by rfl) (ownZ_keep hown1.out (fun b hb=>(heap_alloc_old _ _ (by have:=ownZ_lt hown1.out b hb;simp;omega)).trans (heap_alloc_old _ _ (ownZ_lt hown1.out b hb)))) (some ⟨wr.heap.size+1,0,none⟩) 1 1 [.int .i64 av,.int .i64 ln] (by rfl) byR (by intro u hu;simp at hu;rcases hu with rfl|rfl<;>rfl) (by unfold maxLen;omega) (by omega) (fun A6 c6 w6 own6 gr6 at6=>?_);have hx6:w6.heap[gb]?=some (.cells #[.slice Ax sc.actions.length nx,.slice A ys.length n,.int .i64 sc.rounds] 31):=(gr6.block _ (by simp;omega) (fun e=>by have:=hrow0.out _ e.symm;have:=hlz.out;omega)).trans ((heap_alloc_old _ _ (by simp;omega)).trans ((heap_alloc_old _ _ (by omega)).trans hbx3));clear cb fb;obtain ⟨cb,fb,zb'⟩:=blk hx6)
      have hbe:Below wr.heap.size wr ((wr.alloc (.cells #[.int .i64 av,.int .i64 ln] 86)).alloc (.cells #[.int .i64 av,.int .i64 ln] 86)):=byB
      have hJ:=zH (hHI.out.1.take hHI.out.2.1 (hHI.out.2.2.1.trans hre'.out) hlz.out.2 hlz.out.1 hbe (by rw [hHI.out.2.2.2];exact own6) gr6 at6)
      go_roundw
      case rel=>exact ⟨j+1,by go_num,hJ.out⟩
      case measure=>simp [intOf];omega
     ·as_aux_lemma=>
      rw [show reaches c ow d=false by simpa using hre] at kD
      have hre':=zH (show reaches c ow d=false by simpa using hre)
      clear hre
      go_wp2_with fail
      have hbe:Below wr.heap.size wr (wr.alloc (.cells #[.int .i64 av,.int .i64 ln] 86)):=byB
      exact ⟨⟨j+1,by go_num,hHI.out.1.skip hHI.out.2.1 (hHI.out.2.2.1.trans hre'.out) hbe⟩,by simp [intOf];omega⟩
    ·obtain rfl:j=sc.arrivals.length:=by omega
     have hbx3:=hI.box
     have hE:=hI.eff
     have hys:=hI.eq
     rw [List.take_length] at hys
     have hO2:=hI.own
     have hOA:OZl oActs 53 (Rng (gb+1) NN) wr (.slice Ax sc.actions.length nx) (actTo c sc d sc.actions.length):=OZl.keep hO1.out fun b hb=>hE.keep b (by have:=hb.2;have:=hNN.out;omega) (by have:=hb.1;have:=hb.2;omega)
     obtain ⟨ccc,fcc,zcc⟩:=blk kr3
     obtain ⟨cb,fb,zb⟩:=blk hbx3
     have hfin:onlyOf c sc d=⟨actTo c sc d sc.actions.length,ys,sc.rounds⟩:=by rw [hys];rfl
     replace hOA:=zH hOA
     replace hO2:=zH hO2
     replace hfin:=zH hfin
     replace hbwr2:=zH hbwr2
     have hNz:Hid (NN≤wr.heap.size∧gb < NN):=zH (by have:=hNN.out;omega)
     clear hI hE hys hO1
     go_wp2_with fail
     have e6:(((wr.setCell ⟨w.heap.size+2,0,none⟩ (.slice Ax sc.actions.length nx)).setCell ⟨w.heap.size+2,1,none⟩ (.slice A ys.length n)).setCell ⟨w.heap.size+2,2,none⟩ (.int .i64 sc.rounds)).heap[w.heap.size+2]?=some (.cells #[.slice Ax sc.actions.length nx,.slice A ys.length n,.int .i64 sc.rounds] 31):=by
      have:=heap_set_same (i:=2) (u:= .int .i64 sc.rounds) (heap_set_same (i:=1) (u:= .slice A ys.length n) (heap_set_same (i:=0) (u:= .slice Ax sc.actions.length nx) kr3))
      simpa using this
     obtain ⟨c9,f9,z9⟩:=blk e6
     have kp:∀b,b≠w.heap.size+2→(((wr.setCell ⟨w.heap.size+2,0,none⟩ (.slice Ax sc.actions.length nx)).setCell ⟨w.heap.size+2,1,none⟩ (.slice A ys.length n)).setCell ⟨w.heap.size+2,2,none⟩ (.int .i64 sc.rounds)).heap[b]?=wr.heap[b]?:=fun b hb=>(Below.heap_setCell _ _ _ _ hb).trans ((Below.heap_setCell _ _ _ _ hb).trans (Below.heap_setCell _ _ _ _ hb))
     refine bodyPost_ret (v:= .agg #[.slice Ax sc.actions.length nx,.slice A ys.length n,.int .i64 sc.rounds]) (by simp [results,Tryd.results21,go_sem, *]) rfl ?_
     rw [hfin.out]
     refine ⟨⟨Ax,nx,A,n⟩,by rw [actTo_len],⟨?_,?_⟩,((hbwr2.out.setCell (by simp;omega) _).setCell (by simp;omega) _).setCell (by simp;omega) _⟩
     ·refine Sl.mono (OZl.read (F:=Rng (gb+1) NN) (n:=sc.actions.length) (OZl.keep hOA.out fun b hb=>kp b (by have:=hb.1;omega))) fun b hb=>⟨by have:=hb.1;omega,by have:=hb.2;have:=hNz.out;simp;omega⟩
     ·refine Sl.mono (OZl.read (F:=Rng NN wr.heap.size) (n:=ys.length) (OZl.keep hO2.out fun b hb=>kp b (by have:=hb.1;have:=hNz.out;omega))) fun b hb=>⟨by have:=hb.1;have:=hNz.out;omega,by have:=hb.2;simp;omega⟩
end Go.Proofs.YtinlmkhlgclbfabDoor
end

section
namespace Go.Proofs.YtinlmkhlgclbfabDoor
open Go.RowKit Go.Shelf
attribute [local go_sem] Oper.semAt_some
set_option maxRecDepth 100000
set_option maxHeartbeats 2000000
structure AparI (B:Nat) (c:TCfg) (S:TCfgS) (sc:TScr) (Z:TScrS) (gm:Nat) (F0 FL FK0:Nat→Prop) (A:Option Addr) (n:Nat) (Al:Option Addr) (nl:Nat) (bc gb:Nat) (wr:World) (pre:List Nat) (W:World):Prop where
 ok:MachOk c pre.length (machFold c sc pre)
 b0:W.heap[gb]?=some (.cells #[.pointer (some ⟨gm,0,none⟩)] 61)
 b1:W.heap[bc]?=some (.cells #[.int .i64 c.sets,.int .i64 c.ways,.int .i64 c.doms,.int .i64 c.pad,.int .i64 c.quantum,.slice S.a0 c.slots.length S.n0,.slice S.a1 c.owners.length S.n1,.slice S.a2 c.chans.length S.n2,.slice S.a3 c.tasks.length S.n3] 27)
 all:∃F FK Ak nk k,MachW B c S sc Z gm (machFold c sc pre).ds (machFold c sc pre).last k F FL FK A n Al nl Ak nk W∧LoopM wr (MOwn gm F0 FL FK0) gm F0 FL FK0 F FK W
def RetDomsA (ds:List TDom) (w:World) (e:Ending) (w':World):Prop:=∃A n,e= .returned (.slice A ds.length n)∧DomsO (Rng w.heap.size w'.heap.size) w' (.slice A ds.length n) ds∧Below w.heap.size w w'
theorem apartRun0 (B:Nat)(c:TCfg)(S:TCfgS)(sc:TScr)(Z:TScrS)(h:ScrOk c sc)(w:World)(hB:B≤w.heap.size)(hs:TCfg.At (Low B) w c S)(hz:TScr.At (Low B) w sc Z):
  Calls Tryd.prog 19 #[.agg #[.int .i64 c.sets,.int .i64 c.ways,.int .i64 c.doms,.int .i64 c.pad,.int .i64 c.quantum,.slice S.a0 c.slots.length S.n0,.slice S.a1 c.owners.length S.n1,.slice S.a2 c.chans.length S.n2,.slice S.a3 c.tasks.length S.n3],.agg #[.slice Z.a0 sc.actions.length Z.n0,.slice Z.a1 sc.arrivals.length Z.n1,.int .i64 sc.rounds]] w (RetDomsA (machOf c sc).ds w):=by
 have H2:=zH (fun W (hb:Below w.heap.size w W)=>execNew c S sc Z h.cfg B W (Nat.le_trans hB hb.size) (hs.next hB hb) (hz.next hB hb))
 refine (callsIn_wide (n:=5)).1 ?_
 refine callsIn_of_wp_marks Tryd.func19 rfl trivial ?_ rfl
 simp only [Tryd.ntmps19,List.size_toArray,List.length_cons,List.length_nil,Nat.reduceAdd,Nat.reduceSub,Array.replicate_succ,Array.replicate_zero,List.push_toArray,List.append_toArray,List.nil_append,List.cons_append]
 gi_wp2_with fail
 refine ⟨trivial,?_⟩
 gi_at_call 17
 refine (callsIn_wide.2 (H2.out _ byB)).mono ?_
 rintro e w2 ⟨gm,F,FL,FK,A,n,Al,nl,Ak,nk,rfl,hM,hg,hF,hb2⟩
 have hb02:Below w.heap.size w w2:=byB
 have hcb:w2.heap[w.heap.size]?=some (.cells #[.int .i64 c.sets,.int .i64 c.ways,.int .i64 c.doms,.int .i64 c.pad,.int .i64 c.quantum,.slice S.a0 c.slots.length S.n0,.slice S.a1 c.owners.length S.n1,.slice S.a2 c.chans.length S.n2,.slice S.a3 c.tasks.length S.n3] 27):=(hb2.block _ byS).trans byH
 have hgm:=hM.size
 have hlo:=hM.lo
 have hg2:w.heap.size+2≤gm:=by simpa using hg
 have hF2:∀b,F b∨FL b∨FK b→w.heap.size+2≤b:=fun b hb=>by simpa using hF b hb
 clear H2 hb2 hg hF
 have hz2:=hb02.size
 have hlt:∀b,MOwn gm F FL FK b→w.heap.size+2≤b∧b < w2.heap.size:=fun b hb=>by
  rcases hb with e|e
  ·omega
  ·exact ⟨hF2 b e,(hM.fp b e).2.1⟩
 have hb0:(w2.alloc (.cells #[.pointer (some ⟨gm,0,none⟩)] 61)).heap[w2.heap.size]?=some (.cells #[.pointer (some ⟨gm,0,none⟩)] 61):=heap_alloc_new _ _
 have hb1:(w2.alloc (.cells #[.pointer (some ⟨gm,0,none⟩)] 61)).heap[w.heap.size]?=some (.cells #[.int .i64 c.sets,.int .i64 c.ways,.int .i64 c.doms,.int .i64 c.pad,.int .i64 c.quantum,.slice S.a0 c.slots.length S.n0,.slice S.a1 c.owners.length S.n1,.slice S.a2 c.chans.length S.n2,.slice S.a3 c.tasks.length S.n3] 27):=(heap_alloc_old _ _ (by omega)).trans hcb
 have hbw:Below w2.heap.size w2 (w2.alloc (.cells #[.pointer (some ⟨gm,0,none⟩)] 61)):=byB
 have hwz:(w2.alloc (.cells #[.pointer (some ⟨gm,0,none⟩)] 61)).heap.size=w2.heap.size+1:=by simp
 gi_wp2
 generalize (w2.alloc (.cells #[.pointer (some ⟨gm,0,none⟩)] 61))=wr at*
 refine wpIn_rangeB rfl (by omega) (gf:=34) (fb:=#[.pointer (some ⟨gm,0,none⟩)]) rfl trivial (enters_of Tryd.func34 (by kernel_rfl) rfl) (slotsIt _ (by omega) gm B c S sc Z h) (fun _=>rfl)
  (AparI B c S sc Z gm F FL FK A n Al nl w.heap.size w2.heap.size wr) ?hRd ?hext ?hput ?h0
  (fun i=>{tmps:=#[.agg #[.int .i64 c.sets,.int .i64 c.ways,.int .i64 c.doms,.int .i64 c.pad,.int .i64 c.quantum,.slice S.a0 c.slots.length S.n0,.slice S.a1 c.owners.length S.n1,.slice S.a2 c.chans.length S.n2,.slice S.a3 c.tasks.length S.n3],.agg #[.slice Z.a0 sc.actions.length Z.n0,.slice Z.a1 sc.arrivals.length Z.n1,.int .i64 sc.rounds],.pointer (some ⟨w.heap.size,0,none⟩),.pointer (some ⟨w.heap.size+1,0,none⟩),.slice none 0 0,.pointer (some ⟨w2.heap.size,0,none⟩),.int .i64 (slotNo c i:Nat),.int .i64 (slotAt c i),.agg #[.int .i64 c.sets,.int .i64 c.ways,.int .i64 c.doms,.int .i64 c.pad,.int .i64 c.quantum,.slice S.a0 c.slots.length S.n0,.slice S.a1 c.owners.length S.n1,.slice S.a2 c.chans.length S.n2,.slice S.a3 c.tasks.length S.n3],.agg #[.slice Z.a0 sc.actions.length Z.n0,.slice Z.a1 sc.arrivals.length Z.n1,.int .i64 sc.rounds],.pointer (some ⟨gm,0,none⟩),.pointer (some ⟨gm,0,none⟩),.func (.func 34) #[.pointer (some ⟨gm,0,none⟩)] #[],.int .i64 (slotNo c i:Nat),.int .i64 (slotAt c i),undef,undef,undef,undef,undef,undef,undef,undef,undef,undef,undef,undef,undef,undef,undef,undef],defers:=[]}) ?assign ?body ?done
 case hRd=>
  rintro pre W ⟨_,_,_,F1,FK1,Ak1,nk1,k1,hM1,_⟩
  exact ⟨_,_,_,_,_,_,_,_,_,_,_,_,hM1⟩
 case hext=>
  rintro pre W W' ⟨ok,b0,b1,F1,FK1,Ak1,nk1,k1,hM1,hL⟩ hb
  exact ⟨ok,(hb.block _ (blk b0).2.2).trans b0,(hb.block _ (blk b1).2.2).trans b1,F1,FK1,Ak1,nk1,k1,hM1.ext hb,hL.turn (M':=fun _=>False) (MEff.ofBelow hb) (fun _ e=>e.elim) (fun _ e=> .inl e) fun _ e=> .inl e⟩
 case hput=>
  rintro pre W o ⟨ok,b0,b1,F1,FK1,Ak1,nk1,k1,hM1,hL⟩
  have hk:∀b,b≠wr.heap.size+1→(W.putObj (wr.heap.size+1) o).heap[b]?=W.heap[b]?:=fun b hb=>World.putObj_heap_other hb
  have hn:∀b,MOwn gm F1 FL FK1 b→b≠wr.heap.size+1:=fun b hb e=>by
   rcases hL.own hb with e1|e1
   ·have:=(hL.lt _ e1).1;omega
   ·omega
  have hlow:=hM1.lo
  have hsz:=hL.sz
  refine ⟨ok,(hk _ (by omega)).trans b0,(hk _ (by omega)).trans b1,F1,FK1,Ak1,nk1,k1,hM1.keep (by simp) fun b hb=>hk b ?_,⟨⟨hL.eff.below.trans ⟨rfl,rfl,rfl,by simp,fun j hj=>absurd hj (Nat.not_lt_zero j)⟩,fun b hb hnb=>(hk b (by omega)).trans (hL.eff.keep b hb hnb)⟩,by simpa using hsz,hL.f,hL.k,hL.lt⟩⟩
  rcases hb with hb|hb
  ·omega
  ·exact hn b hb
 case h0=>
  intro W1 hW1 hb
  have hb2:Below w2.heap.size w2 W1:=hbw.trans (hb.mono (by omega))
  exact ⟨mach0_ok h.cfg,(hb.block _ (by omega)).trans hb0,(hb.block _ (by omega)).trans hb1,F,FK,Ak,nk,_,hM.ext hb2,⟨MEff.ofBelow hb,hW1,fun _ e=> .inl e,fun _ e=> .inl e,fun b hb=>⟨by have:=hlt b hb;omega,hb⟩⟩⟩
 case assign=>
  intro l x W K hK
  gi_wp2
  exact hK
 case body=>
  rintro pre x W hx hsz ⟨ok,b0,b1,F1,FK1,Ak1,nk1,k1,hM1,hL⟩ hlen
  have h48:=slotsIn_le h
  have hno:=slotNo_lt h.cfg x
  have hat:=slotAt_bd h hx
  have hok:=slot_ok (s:=(slotNo c x:Nat)) h ok ⟨by omega,by omega⟩ ⟨hat.1,by omega⟩
  have hst:=slot_done h hok ok
  have hsn:=machFold_snoc c sc pre x
  have HR:=zH (⟨ok,b0,b1,hL,hok,hst,hsn,hM1⟩:_∧_∧_∧_∧_∧_∧_∧_)
  clear hok hst hsn hL hM1 b0 b1 ok
  gi_wp2_with fail
  obtain ⟨ok,b0,b1,hL,hok,hst,hsn,hM1⟩:=HR.out
  refine apartR5 _ (by kernel_rfl) hM1 b0 b1 h.cfg rfl (fun ⟨_,_,h⟩=>Exit.noConfusion (And.left (show Exit.outgrown=Exit.normal∧_ from h))) ?_
  intro _ _ _ _ _ _ _ _ A9 n9 FK9 W9 hM9 hE9 hF9
  have HS:=execSlot h ok (by omega) hno ⟨hat.1,by omega⟩ W9 hM9
  have hL9:=hL.turn (F':=F1) (FK':=FK9) hE9 (fun b e=> .inl e) (fun _ e=> .inl e) (fun b e=> .inr (hF9 b e))
  have hnn:∀b,b < w.heap.size+2∨w2.heap.size≤b→¬ MOwn gm F FL FK b:=fun b hb e=>by have:=hlt b e;omega
  have k9:=fun b (hb:b < wr.heap.size+2) hn=>hL.at hE9 (fun b e=> .inl e) (b:=b) hb hn
  have b09:=(k9 w2.heap.size (by omega) (hnn _ (by omega))).trans b0
  obtain ⟨c0,f0,z0⟩:=blk b09
  clear HR
  gi_wp2_with fail
  refine ⟨trivial,?_⟩
  gi_at_call 35
  refine (CallsIn.inRound _ (callsIn_wide.2 HS)).mono ?_
  rintro e W2 ⟨rfl,F2,hM2,hE2,hF2⟩
  have hL2:=hL9.turn hE2 (fun _ e=>e) hF2 (fun _ e=> .inl e)
  have kk:=fun b (hb:b < wr.heap.size+2) hn=>(hL9.at hE2 (fun _ e=>e) (b:=b) hb hn).trans (k9 b hb hn)
  have hm:machFold c sc (pre++[x])=slotAll c sc (slotNo c x:Nat) (slotAt c x) (machFold c sc pre):=hsn
  have HF:AparI B c S sc Z gm F FL FK A n Al nl w.heap.size w2.heap.size wr (pre++[x]) W2:=
   ⟨by rw [hm,List.length_append];exact hst,(kk _ (by omega) (hnn _ (by omega))).trans b0,(kk _ (by omega) (hnn _ (by omega))).trans b1,F2,FK9,A9,n9,_,by rw [hm];exact hM2,hL2⟩
  have h1:=kk wr.heap.size (by omega) (hnn _ (by omega))
  have h2:=kk (wr.heap.size+1) (by omega) (hnn _ (by omega))
  have h3:W.heap.size≤W2.heap.size:=Nat.le_trans hE9.below.size hE2.below.size
  rw [hwz] at h1 h2
  clear hM2 hL2 hE2 hE9 hL9 hM9 hM1 hL hok hst hsn ok b0 b1 HS kk k9
  replace HF:=zH HF
  gi_wp2_with fail
  exact HF.out
 case done=>
  rintro xs W rfl ⟨ok,b0,b1,F1,FK1,Ak1,nk1,k1,hM1,hL⟩ hk hsz
  rw [machFold_range] at hM1
  obtain ⟨c0,f0,z0⟩:=blk b0
  obtain ⟨c1,f1,z1⟩:=blk hM1.blk
  have hlow:=hM1.lo
  have HZ:∀o,DomsO (Rng w.heap.size (W.putObj wr.heap.size o).heap.size) (W.putObj wr.heap.size o) (.slice A (machOf c sc).ds.length n) (machOf c sc).ds∧Below w.heap.size w (W.putObj wr.heap.size o):=fun o=>by
   have kp:∀b,b≠wr.heap.size→(W.putObj wr.heap.size o).heap[b]?=W.heap[b]?:=fun b hb=>World.putObj_heap_other hb
   have hfr:∀b,F1 b→w.heap.size≤b∧b≠wr.heap.size:=fun b hb=>by
    rcases hL.f b hb with e|e
    ·have:=hlt b (.inr (.inl e));omega
    ·omega
   have hD:DomsO F1 (W.putObj wr.heap.size o) (.slice A (machOf c sc).ds.length n) (machOf c sc).ds:=OZl.keep hM1.dom fun b hb=>kp b (hfr b hb).2
   have hwr:Below w.heap.size w wr:=hb02.trans (hbw.mono hz2)
   have hW:Below w.heap.size wr W:=hL.eff.low (by omega) fun b hb=>by have:=hlt b hb;omega
   exact ⟨OZl.mono hD fun b hb=>⟨(hfr b hb).1,by simpa using (hM1.fp b (.inl hb)).2.1⟩,(hwr.trans hW).trans ⟨rfl,rfl,rfl,by simp,fun j hj=>kp j (by omega)⟩⟩
  replace HZ:=zH HZ
  clear hM1 hL
  gi_wp2
  refine ⟨by simp,.inl ⟨_,_,rfl,run_takeDeferred hk,?_⟩⟩
  exact ⟨_,results_tmp rfl _ _ _,A,n,by simp [Act.eval]<;>rfl,HZ.out _⟩
def RetDomsX (ds:List TDom) (err:Int) (w:World) (e:Ending) (w':World):Prop:=∃A n,e= .returned (.tuple #[.slice A ds.length n,.int .i64 err])∧DomsO (Rng w.heap.size w'.heap.size) w' (.slice A ds.length n) ds∧Below w.heap.size w w'
theorem apartRun (c:TCfg)(S:TCfgS)(sc:TScr)(Z:TScrS)(B:Nat)(w:World)(hB:B≤w.heap.size)(hs:TCfg.At (Low B) w c S)(hz:TScr.At (Low B) w sc Z):
  Calls Tryd.prog 8 #[.agg #[.int .i64 c.sets,.int .i64 c.ways,.int .i64 c.doms,.int .i64 c.pad,.int .i64 c.quantum,.slice S.a0 c.slots.length S.n0,.slice S.a1 c.owners.length S.n1,.slice S.a2 c.chans.length S.n2,.slice S.a3 c.tasks.length S.n3],.agg #[.slice Z.a0 sc.actions.length Z.n0,.slice Z.a1 sc.arrivals.length Z.n1,.int .i64 sc.rounds]] w (RetDomsX (execDs c sc) (checkScript c sc) w):=by
 have H1:=zH (fun W (h:Below w.heap.size w W)=>execCheck c S sc Z B W (Nat.le_trans hB h.size) (hs.next hB h) (hz.next hB h))
 unfold execDs
 by_cases e1:checkScript c sc=0
 ·have hok:=checkScript_ok e1
  rw [if_pos e1,e1]
  rw [e1] at H1
  have H2:=zH (fun W (h:Below w.heap.size w W)=>apartRun0 B c S sc Z hok W (Nat.le_trans hB h.size) (hs.next hB h) (hz.next hB h))
  clear e1
  go_enter Tryd.func8,Tryd.ntmps8
  go_wp2_with fail
  (go_at_call 16;refine (H1.out _ byB).mono ?_;rintro e w1 ⟨rfl,hb_w1⟩;refine kbb (show w1.heap[w.heap.size]?=some (.cells #[.int .i64 c.sets,.int .i64 c.ways,.int .i64 c.doms,.int .i64 c.pad,.int .i64 c.quantum,.slice S.a0 c.slots.length S.n0,.slice S.a1 c.owners.length S.n1,.slice S.a2 c.chans.length S.n2,.slice S.a3 c.tasks.length S.n3] 27) from (hb_w1.block _ byS).trans byH) (fun c_w1 cc_w1 fc_w1 zc_w1=>?_);refine kbb (show w1.heap[w.heap.size+1]?=some (.cells #[.slice Z.a0 sc.actions.length Z.n0,.slice Z.a1 sc.arrivals.length Z.n1,.int .i64 sc.rounds] 31) from (hb_w1.block _ byS).trans byH) (fun z_w1 cz_w1 fz_w1 zz_w1=>?_);refine armT w hb_w1 (fun h_w1 s_w1 t_w1 hb_w1=>?_);(try simp at t_w1))
  go_wp2_with fail
  go_at_call 19
  refine (H2.out _ byB).mono ?_
  rintro e w2 ⟨A,n,rfl,hO,hb2⟩
  have hb02:Below w.heap.size w w2:=byB
  have hz1:=h_w1.size
  clear H1 H2
  go_wp2_with fail
  refine bodyPost_ret (v:= .tuple #[.slice A (machOf c sc).ds.length n,.int .i64 0]) (by simp [results,Tryd.results8,go_sem, *]) rfl ?_
  exact ⟨A,n,rfl,OZl.mono hO fun b hb=>⟨by have:=hb.1;have:=hb2.size;omega,hb.2⟩,hb02⟩
 ·rw [if_neg e1]
  have b1:(checkScript c sc !=0)=true:=by simp [e1]
  clear e1
  generalize checkScript c sc=CE at*
  go_enter Tryd.func8,Tryd.ntmps8
  go_wp2_with fail
  (go_at_call 16;refine (H1.out _ byB).mono ?_;rintro e w1 ⟨rfl,hb_w1⟩;refine kbb (show w1.heap[w.heap.size]?=some (.cells #[.int .i64 c.sets,.int .i64 c.ways,.int .i64 c.doms,.int .i64 c.pad,.int .i64 c.quantum,.slice S.a0 c.slots.length S.n0,.slice S.a1 c.owners.length S.n1,.slice S.a2 c.chans.length S.n2,.slice S.a3 c.tasks.length S.n3] 27) from (hb_w1.block _ byS).trans byH) (fun c_w1 cc_w1 fc_w1 zc_w1=>?_);refine kbb (show w1.heap[w.heap.size+1]?=some (.cells #[.slice Z.a0 sc.actions.length Z.n0,.slice Z.a1 sc.arrivals.length Z.n1,.int .i64 sc.rounds] 31) from (hb_w1.block _ byS).trans byH) (fun z_w1 cz_w1 fz_w1 zz_w1=>?_);refine armT w hb_w1 (fun h_w1 s_w1 t_w1 hb_w1=>?_);(try simp at t_w1))
  go_wp2_with fail
  refine bodyPost_ret (v:= .tuple #[.slice none 0 0,.int .i64 CE]) (by simp [results,Tryd.results8,go_sem, *]) rfl ?_
  exact ⟨none,0,rfl,OZl.nil _ _ _ _,h_w1⟩
end Go.Proofs.YtinlmkhlgclbfabDoor
end

section
namespace Go.Proofs.YtinlmkhlgclbfabDoor
open Go.RowKit
set_option maxRecDepth 100000
set_option maxHeartbeats 4000000
def noDom:TDom:=⟨[],[],0,[],[],[],[]⟩
def noDomS:TDomS:=⟨none,0,none,0,none,0,none,0,none,0,none,0⟩
theorem noDom_own (w:World):DomO (fun _ _=>False) w noDom noDomS:=
 ⟨OZl.nil _ _ _ _,OZl.nil _ _ _ _,OZl.nil _ _ _ _,OZl.nil _ _ _ _,OZl.nil _ _ _ _,OZl.nil _ _ _ _,fun _ _ _ _ h=>h.elim,fun _ _ h=>h.elim⟩
end Go.Proofs.YtinlmkhlgclbfabDoor
end
