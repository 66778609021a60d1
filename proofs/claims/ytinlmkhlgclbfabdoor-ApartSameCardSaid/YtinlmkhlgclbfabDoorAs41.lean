/- ReachA MachN -/
import Derived.Test.YtinlmkhlgclbfabDoorAs40
namespace Go.Proofs.YtinlmkhlgclbfabDoor
open Go.RowKit
section
set_option maxRecDepth 100000
set_option maxHeartbeats 1000000
theorem tyBool:TyS Tryd.prog 109 4 (.bool false) 1 1:=⟨Tryd.underlying109,info_of (by kernel_rfl),rfl,by decide⟩
theorem tyBools:TyS Tryd.prog 107 109 (.slice none 0 0) 1 24:=⟨Tryd.underlying107,info_of (by kernel_rfl),rfl,by decide⟩
def boolCells (xs:List Bool):Array Value:=(xs.map Value.bool).toArray
theorem boolCells_made (n:Nat):madeCells (Value.bool false).cells (n*1)=boolCells (List.replicate n false):=by
 apply Array.toList_inj.1
 have:=madeCells_flat #[Value.bool false] n (by simp)
 rw [show (#[Value.bool false]:Array Value).size=1 from rfl] at this
 rw [show (Value.bool false).cells=#[Value.bool false] from rfl,this]
 unfold boolCells
 simp
theorem boolCells_at {xs:List Bool}{k:Nat}(h:k < xs.length):(boolCells xs)[k]?=some (.bool (nth xs k)):=by
 rw [nth_eq h];simp [boolCells,h]
theorem boolCells_set (xs:List Bool)(k:Nat)(v:Bool):(boolCells xs).setIfInBounds k (.bool v)=boolCells (xs.set k v):=by
 simp [boolCells,List.map_set]
theorem sl_bools {I:Nat→Prop}{w:World}{g:Nat}{t:TypeId}{xs:List Bool}(h:w.heap[g]?=some (.cells (boolCells xs) t (0,0)))(hI:I g)(hm:xs.length≤maxLen):Sl cBool I w (some ⟨g,0,none⟩) xs.length xs:=by
 refine ⟨Nat.le_refl _,hm,fun e=>(by cases e),fun i hi=>⟨g,0,[.bool xs[i]],rfl,hI,rfl,fun j u hu=>?_⟩⟩
 rw [(blk h).1]
 rcases j with _|j
 ·simp at hu;subst hu
  show (boolCells xs)[0+i*1+0]?=_
  rw [Nat.zero_add,Nat.mul_one,Nat.add_zero,boolCells_at hi,nth_eq hi]
 ·simp at hu
def oRow:OCod (List Bool) where
 cod:=cBool.slice
 rel:=fun F w cs xs=>∃g,cs=[.slice (some ⟨g,0,none⟩) xs.length xs.length]∧F g∧w.heap[g]?=some (.cells (boolCells xs) 4 (0,0))∧xs.length≤maxLen
 toRead:=fun ⟨_,h,hF,hg,hm⟩=>⟨_,_,h,sl_bools hg hF hm⟩
 keep:=fun ⟨g,h,hF,hg,hm⟩ hk=>⟨g,h,hF,(hk g hF).trans hg,hm⟩
 mono:=fun ⟨g,h,hF,hg,hm⟩ hk=>⟨g,h,hk g hF,hg,hm⟩
def RowsAre (n:Nat) (R:List (List Bool)) (f:Nat→List Bool):Prop:=R.length=n∧∀j,j < n→nth R j=f j
def rowsTo (n:Nat) (f:Nat→List Bool):List (List Bool):=(List.range n).map f
theorem rowsTo_length (n:Nat)(f:Nat→List Bool):(rowsTo n f).length=n:=by simp [rowsTo]
theorem rowsTo_at {n:Nat}{f:Nat→List Bool}{j:Nat}(h:j < n):nth (rowsTo n f) j=f j:=by rw [nth_eq (by simpa [rowsTo] using h)];simp [rowsTo]
theorem rowsTo_snoc (n:Nat)(f:Nat→List Bool):rowsTo (n+1) f=rowsTo n f++[f n]:=by simp [rowsTo,List.range_succ]
theorem rows_are {n:Nat}{R:List (List Bool)}{f:Nat→List Bool}(h:RowsAre n R f):R=rowsTo n f:=by
 refine List.ext_getElem (by rw [h.1,rowsTo_length]) fun i h1 h2=>?_
 rw [← nth_eq h1,← nth_eq h2,h.2 i (by rw [← h.1];exact h1),rowsTo_at (by rw [← h.1];exact h1)]
def reachRows (c:TCfg):List (List Bool):=rowsTo c.doms.toNat (reachRow c)
def RetRows (R:List (List Bool)) (w:World) (e:Ending) (w':World):Prop:=∃A n,e= .returned (.slice A R.length n)∧Sl cBool.slice (Rng w.heap.size w'.heap.size) w' A n R∧Below w.heap.size w w'
set_option maxHeartbeats 16000000 in
theorem configReaches (c:TCfg)(ok:CfgOk c)(S:TCfgS)(B:Nat)(w:World)(hB:B≤w.heap.size)(hs:TCfg.At (Low B) w c S):
    Calls Tryd.prog 37 #[.agg #[.int .i64 c.sets,.int .i64 c.ways,.int .i64 c.doms,.int .i64 c.pad,.int .i64 c.quantum,.slice S.a0 c.slots.length S.n0,.slice S.a1 c.owners.length S.n1,.slice S.a2 c.chans.length S.n2,.slice S.a3 c.tasks.length S.n3]] w (RetRows (reachRows c) w):=by
  have hch:=ok.nchans
  have HC:=zH ok.chan
  obtain ⟨d1,d4⟩:=ok.doms
  have hdef:reachRows c=rowsTo c.doms.toNat (fun j=>iterR c.chans c.doms.toNat (unitR c.doms.toNat j)):=rfl
  rw [hdef]
  clear hdef ok
  obtain ⟨q0,q1,q2,q3,q4,sl,ow,ch,tk⟩:=c
  dsimp only at d1 d4 hch HC hs⊢
  obtain ⟨n,rfl⟩:=Int.eq_ofNat_of_zero_le (show 0≤q2 by omega)
  rw [Int.toNat_natCast]
  have hn4:n≤4:=by omega
  have hn1:1≤n:=by omega
  have hmk:=make_run tyBool n (by omega) (by omega)
  rw [boolCells_made] at hmk
  (obtain ⟨a0,n0,a1,n1,a2,n2,a3,n3⟩:=S;obtain ⟨hs0,hs1,hs2,hs3⟩:=hs;dsimp only at hs0 hs1 hs2 hs3⊢)
  clear hs0 hs1 hs3 d1 d4
  go_enter Tryd.func37,Tryd.ntmps37
  go_wp2_with fail
  go_loopw [3,11] (fun ov iv wr=>∃(i:Nat) (A1:Option Addr) (c1:Nat),i≤n∧iv= .int .i64 i∧ov= .slice A1 i c1∧wr.heap[w.heap.size]?=some (.cells #[.int .i64 q0,.int .i64 q1,.int .i64 n,.int .i64 q3,.int .i64 q4,.slice a0 sl.length n0,.slice a1 ow.length n1,.slice a2 ch.length n2,.slice a3 tk.length n3] 27)∧
    OSl oRow 109 (Rng (w.heap.size+1) wr.heap.size) wr (.slice A1 i c1) (rowsTo i (unitR n))∧Below w.heap.size w wr) (fun _ iv _=>n - (intOf iv).toNat)
  case atStart=>exact ⟨0,none,0,Nat.zero_le _,rfl,rfl,byH,OSl.nil _ _ _ _,byB⟩
  case round=>
    obtain ⟨i,A1,c1,hi,rfl,rfl,hp,hO,hbr⟩:=hrel
    obtain ⟨cp,fp,zp⟩:=blk hp
    have so:=hbr.size
    by_cases hlt:i < n
    · have hi0:(0:Int)≤i:=by omega
      have hi1:(i:Int) < n:=by omega
      obtain ⟨ess,G,e1,e2,e3,e4,e5,e6⟩:=hO
      rw [rowsTo_length] at e1 e2
      have e2:wr.ownsRow 0 109 1 (.slice A1 i c1) i ess.flatten:=e2
      have hlo:∀b,(Value.slice A1 i c1).ownBlock=some b→w.heap.size+1≤b:=fun b hb=>(e3 b hb).1
      have HE1:=zH e1
      have HK:=zH (fun W (h:KeepI (Rng (w.heap.size+1) wr.heap.size) wr W)=>show W.ownsRow 0 109 1 (.slice A1 i c1) i ess.flatten from own_keep e2 fun bb hb=>h bb (e3 bb hb))
      clear e1
      have hat0:(boolCells (List.replicate n false))[i]?=some (.bool false):=(boolCells_at (by simpa using hlt)).trans (by rw [nth_eq (by simpa using hlt)];simp)
      go_wp2_with ((at_builtin;refine wpList_app ?_ (.tmp 20) (.tmp 22) _ ?_ 0 tyBools (.slice A1 i c1) i ess.flatten ?_ ?_ (some ⟨wr.heap.size+1,0,none⟩) 1 1 [.slice (some ⟨wr.heap.size,0,none⟩) n n] ?_ ?_ (one_one rfl) ?_ ?_ ?_ ?_;rfl;rfl;rfl;exact (HK.out _ byI);rfl;exact (src_new (by simp) rfl);(first|(unfold maxLen;omega)|(simp only [maxLen];omega));(omega);(exact Nat.zero_le _);intro A3 c3 w3 hown3 hg_w3 hat_w3;refine have_then (P:=w3.heap[w.heap.size]?=some (.cells #[.int .i64 q0,.int .i64 q1,.int .i64 n,.int .i64 q3,.int .i64 q4,.slice a0 sl.length n0,.slice a1 ow.length n1,.slice a2 ch.length n2,.slice a3 tk.length n3] 27)) ?_ (fun p_w3=>?_);(focus (refine (hg_w3.block _ ?_ ?_).trans ?_;(first|omega|(simp<;>omega));(intro e;have hlt:=hlo _ e.symm;omega);exact byH;done));obtain ⟨cp_w3,fp_w3,zp_w3⟩:=blk p_w3;refine have_then (P:=Below w.heap.size w w3) ?_ (fun h_w3=>?_);(focus (refine Below.grown ?_ hg_w3 ?_ ?_;(focus (exact byB;done));(first|exact Nat.le_refl _|exact Below.size (by assumption)|omega|(simp<;>omega));(intro kk hkk;have hlt:=hlo _ hkk;omega);done));have s_w3:=Below.size h_w3;have t_w3:=hg_w3.size;(try simp at t_w3)))
      go_roundw
      case rel=>
        have z3:=hg_w3.size
        simp at z3
        refine ⟨i+1,A3,c3,by omega,by go_num,rfl,byH,?_,byB⟩
        rw [rowsTo_snoc]
        refine osl_step (F:=Rng (w.heap.size+1) wr.heap.size) (Fx:=Rng wr.heap.size (wr.heap.size+1)) (w0:=wr) (es:=[.slice (some ⟨wr.heap.size,0,none⟩) n n]) (by rw [rowsTo_length];exact HE1.out) e4 e5 e6 e3 hg_w3 hat_w3 (by rw [rowsTo_length];exact hown3) ⟨wr.heap.size,by rw [unitR_length],by simp only [Rng];omega,?_,by rw [unitR_length];unfold maxLen;omega⟩ ?_ ?_ ?_ ?_ ?_ ?_
        · unfold unitR
          rw [← boolCells_set]
          exact byH
        · exact byI
        · intro bb hb hb';simp only [Rng] at hb hb';omega
        · intro bb hb;simp only [Rng] at hb;(try simp);omega
        · intro bb hb;simp only [Rng] at hb⊢;(try simp);omega
        · intro bb hb hb';simp only [Rng];(try simp at hb⊢);omega
        · exact byI
      case measure=>simp [intOf];omega
    · obtain rfl:n=i:=by omega
      obtain ⟨wo,rfl⟩:∃wo:World,wo=wr:=⟨_,rfl⟩
      clear hmk
      go_wp2_with fail
      go_loopw [27] (fun iv wr=>∃(t:Nat) (R:List (List Bool)),t≤n∧iv= .int .i64 t∧Hid (RowsAre n R (fun j=>iterR ch t (unitR n j)))∧wr.heap[w.heap.size]?=some (.cells #[.int .i64 q0,.int .i64 q1,.int .i64 n,.int .i64 q3,.int .i64 q4,.slice a0 sl.length n0,.slice a1 ow.length n1,.slice a2 ch.length n2,.slice a3 tk.length n3] 27)∧
        OSl oRow 109 (Rng (w.heap.size+1) wo.heap.size) wr (.slice A1 n c1) R∧wo.heap.size≤wr.heap.size∧Below w.heap.size w wr) (fun iv _=>n - (intOf iv).toNat)
      case atStart=>exact ⟨0,rowsTo n (unitR n),Nat.zero_le _,rfl,⟨rowsTo_length _ _,fun j hj=>rowsTo_at hj⟩,byH,hO,Nat.le_refl _,byB⟩
      case round=>
        obtain ⟨t,R,ht,rfl,hR,hp,hO,hso,hbr⟩:=hrel
        obtain ⟨cp,fp,zp⟩:=blk hp
        by_cases htn:t < n
        · have ht0:(0:Int)≤t:=by omega
          have ht1:(t:Int) < n:=by omega
          go_wp2_with fail
          go_loopw [32] (fun iv wk=>∃(k:Nat) (R:List (List Bool)),k≤ch.length∧iv= .int .i64 k∧Hid (RowsAre n R (fun j=>passR (ch.take k) (iterR ch t (unitR n j))))∧wk.heap[w.heap.size]?=some (.cells #[.int .i64 q0,.int .i64 q1,.int .i64 n,.int .i64 q3,.int .i64 q4,.slice a0 sl.length n0,.slice a1 ow.length n1,.slice a2 ch.length n2,.slice a3 tk.length n3] 27)∧
            OSl oRow 109 (Rng (w.heap.size+1) wo.heap.size) wk (.slice A1 n c1) R∧wo.heap.size≤wk.heap.size∧Below w.heap.size w wk) (fun iv _=>ch.length - (intOf iv).toNat)
          case atStart=>exact ⟨0,R,Nat.zero_le _,rfl,⟨hR.out.1,fun j hj=>(hR.out.2 j hj).trans (by rw [List.take_zero];rfl)⟩,byH,hO,hso,byB⟩
          case round=>
            obtain ⟨k,R,hk,rfl,hR,hp,hO,hso,hbr⟩:=hrel
            obtain ⟨cp,fp,zp⟩:=blk hp
            by_cases hkt:k < ch.length
            · obtain ⟨b,o,rfl,hI,hc0,hc1,hc2⟩:=(hs2.next hB hbr).at_chan hkt
              have hbl:b < w.heap.size:=Nat.lt_of_lt_of_le hI hB
              have hbk:b < wr.heap.size:=by omega
              have hk0:(0:Int)≤k:=by omega
              have hk1:(k:Int) < ch.length:=by omega
              obtain ⟨⟨s0,s1⟩,⟨u0,u1⟩,_⟩:=HC.out k hkt
              have HS:=zH (take_snoc hkt)
              generalize nth ch k=x at*
              obtain ⟨xs,xd,xz⟩:=x
              dsimp only at s0 s1 u0 u1 hc0 hc1 hc2
              obtain ⟨ks,rfl⟩:=Int.eq_ofNat_of_zero_le s0
              obtain ⟨kd,rfl⟩:=Int.eq_ofNat_of_zero_le u0
              have hks:ks < n:=by omega
              have hkd:kd < n:=by omega
              have hks0:(0:Int)≤ks:=by omega
              have hks1:(ks:Int) < n:=by omega
              have hkd0:(0:Int)≤kd:=by omega
              have hkd1:(kd:Int) < n:=by omega
              obtain ⟨w1,rfl⟩:∃w1:World,w1=wr:=⟨_,rfl⟩
              go_wp2_with fail
              go_loopw [38] (fun iv wi=>∃(i:Nat) (R:List (List Bool)),i≤n∧iv= .int .i64 i∧Hid (RowsAre n R (fun j=>if j < i then passR (ch.take (k+1)) (iterR ch t (unitR n j)) else passR (ch.take k) (iterR ch t (unitR n j))))∧wi.heap[w.heap.size]?=some (.cells #[.int .i64 q0,.int .i64 q1,.int .i64 n,.int .i64 q3,.int .i64 q4,.slice a0 sl.length n0,.slice a1 ow.length n1,.slice (some ⟨b,o,none⟩) ch.length n2,.slice a3 tk.length n3] 27)∧
                wi.heap[w1.heap.size]?=some (.cells #[.int .i64 ks,.int .i64 kd,.int .i64 xz] 124)∧OSl oRow 109 (Rng (w.heap.size+1) wo.heap.size) wi (.slice A1 n c1) R∧wo.heap.size≤w1.heap.size∧w1.heap.size < wi.heap.size∧Below w.heap.size w wi) (fun iv _=>n - (intOf iv).toNat)
              case atStart=>exact ⟨0,R,Nat.zero_le _,rfl,⟨hR.out.1,fun j hj=>(hR.out.2 j hj).trans (if_neg (Nat.not_lt_zero j)).symm⟩,byH,byH,hO.keepI byI,hso,by simp,byB⟩
              case round=>
                obtain ⟨i,R,hi,rfl,hR,hp,hx,hO,hso,hs1,hbr⟩:=hrel
                obtain ⟨cp,fp,zp⟩:=blk hp
                obtain ⟨cx,fx,zx⟩:=blk hx
                by_cases hit:i < n
                · have hi0:(0:Int)≤i:=by omega
                  have hi1:(i:Int) < n:=by omega
                  obtain ⟨hRl,hRj⟩:=hR.out
                  have hrow:=hRj i hit
                  dsimp only at hrow
                  rw [if_neg (by omega)] at hrow
                  have HR1:Hid (∀v:List Bool,v=stepR ⟨ks,kd,xz⟩ (nth R i)→RowsAre n (R.set i v) (fun j=>if j < i+1 then passR (ch.take (k+1)) (iterR ch t (unitR n j)) else passR (ch.take k) (iterR ch t (unitR n j)))):=zH (fun v hv=>⟨by simp [hRl],fun j hj=>by
                    dsimp only
                    rw [nth_set (by omega)]
                    by_cases hij:i=j
                    · subst hij
                      rw [if_pos rfl,if_pos (by omega),HS.out,passR_snoc,hv,hrow]
                    · rw [if_neg hij,hRj j hj]
                      dsimp only
                      by_cases hji:j < i
                      · rw [if_pos hji,if_pos (by omega)]
                      · rw [if_neg hji,if_neg (by omega)]⟩)
                  obtain ⟨g,cc,es,Gi,hv,hFg,⟨gi,rfl,hGi,hgi,hm⟩,hcells,hG,hput⟩:=osl_elem hO (show i < R.length by omega)
                  injection hv with hv1 hv2 hv3
                  subst hv1
                  have hcr0:=hcells 0 _ rfl
                  have hrl:(nth R i).length=n:=by rw [hrow,passR_length,iterR_length,unitR_length]
                  obtain ⟨cg,fg,zg⟩:=blk hgi
                  have hcs:=(cg ks).trans (boolCells_at (by omega))
                  have hcd:=(cg kd).trans (boolCells_at (by omega))
                  have hcr:wr.cell? ⟨g,i,none⟩=some (.slice (some ⟨gi,0,none⟩) n n):=by
                    rw [hrl] at hcr0
                    have e:0+i*oRow.cod.size+0=i:=by show 0+i*1+0=i;omega
                    first
                      |(rw [e] at hcr0;exact hcr0)
                      | (have e2 : i * oRow.cod.size + 0 = i := by show i * 1 + 0 = i; omega
                         rw [e2] at hcr0;exact hcr0)
                  clear hcr0
                  have hgi1:w.heap.size+1≤gi:=(hG gi hGi).1.1
                  have hgi2:gi < wo.heap.size:=(hG gi hGi).1.2
                  have hg1:w.heap.size+1≤g:=hFg.1
                  have hg2:g < wo.heap.size:=hFg.2
                  have HP:Hid (∀(W:World) (v:List Bool),v.length=n→W.heap[gi]?=some (.cells (boolCells v) 4 (0,0))→(∀b,b≠gi→b < wr.heap.size→W.heap[b]?=wr.heap[b]?)→OSl oRow 109 (Rng (w.heap.size+1) wo.heap.size) W (.slice (some ⟨g,0,none⟩) n c1) (R.set i v)):=zH (fun W v hl hc hk=>hput W v ⟨gi,by rw [hrl,hl],hGi,hc,by rw [hl];rw [hrl] at hm;exact hm⟩ (fun b hb hnb=>hk b (fun e=>hnb (e ▸ hGi)) (by have:=hb.2;omega)))
                  clear hput hcells hv2 hv3 hR hRj hG hFg
                  have HV:Hid ((nth R i).set kd (nth (nth R i) kd||nth (nth R i) ks)=stepR ⟨ks,kd,xz⟩ (nth R i)):=zH (by unfold stepR;simp)
                  generalize nth R i=rr at*
                  generalize hbs:nth rr ks=bs at*
                  generalize hbd:nth rr kd=bd at*
                  have hset:=zH (boolCells_set rr kd (bd||bs))
                  clear cg hrow hRl HS
                  go_wp2_with fail
                  refine reachTurn _ (by kernel_rfl) n ks kd i g gi w1.heap.size c1 xz bs bd hit hks hkd wr hn4 cx fx zx hcr hcs hcd fg zg _ _ _ _ _ _ _ _ _ _ _ _ _ _ _ _ _ _ _ _ _ _ _ _ _ _ _ _ _ _ _ _ _ _ _ _ _ _ _ _ _ _ _ _ _ _ _ _ _ _ _ _ _ _ _ _ _ _ _ _ _ _ _ _ _ _ _ _ ?_
                  intro v41 v42 v43 v44 v45 v46 v47 v48 v49 v50 v51 v52 v53 v54 v55 v56 v57 v58 v59 v60 v61 v62 v63 v64 v65
                  go_wp2_with fail
                  go_roundw
                  case rel=>
                    refine ⟨i+1,_,by omega,by go_num,HR1.out _ HV.out,byH,byH,HP.out _ _ (by simp [hrl]) ?_ ?_,hso,byS,byB⟩
                    · rw [← hset.out]
                      exact heap_drew (heap_set_same hgi)
                    · exact fun b hb _=>heap_set_far rfl hb
                  case measure=>simp [intOf];omega
                · obtain rfl:n=i:=by omega
                  go_wp2_with fail
                  go_roundw
                  case rel=>
                    refine ⟨k+1,R,by omega,by go_num,⟨hR.out.1,fun j hj=>(hR.out.2 j hj).trans (if_pos hj)⟩,byH,hO,by omega,byB⟩
                  case measure=>simp [intOf];omega
            · obtain rfl:k=ch.length:=by omega
              go_wp2_with fail
              go_roundw
              case rel=>
                refine ⟨t+1,R,by omega,by go_num,⟨hR.out.1,fun j hj=>(hR.out.2 j hj).trans (by rw [List.take_length];rfl)⟩,byH,hO,hso,byB⟩
              case measure=>simp [intOf];omega
        · obtain rfl:n=t:=by omega
          go_wp2_with fail
          refine bodyPost_ret (v:= .slice A1 n c1) (by simp [results,Tryd.results37,go_sem, *]) rfl ?_
          obtain rfl:=rows_are hR.out
          refine ⟨A1,c1,by rw [rowsTo_length],?_,byB⟩
          exact (OSl.read hO).mono byM
end
section
theorem slotAll_len (c:TCfg)(sc:TScr)(s start:Int)(m:Mach):(slotAll c sc s start m).ds.length=m.ds.length:=by
 show (closeOf c s _).length=_
 unfold closeOf;rw [closeUp_len,List.length_set]
theorem machUp_len (c:TCfg)(sc:TScr)(hc:CfgOk c):∀n,((machUp c sc n).ds.length:Int)=c.doms:=by
 have:=hc.doms
 intro n
 induction n with
 |zero=>show ((List.replicate c.doms.toNat (freshOf c)).length:Int)=_;simp;omega
 |succ n ih=>rw [machUp_succ];show ((slotAll c sc _ _ _).ds.length:Int)=_;rw [slotAll_len];exact ih
def reaches (c:TCfg) (i j:Nat):Bool:=nth (reachRow c i) j
theorem passR_edge {xs:List TChan} :∀ {r:List Bool} {x:TChan},x∈xs→x.src.toNat < r.length→x.dst.toNat < r.length→nth r x.src.toNat=true→nth (passR xs r) x.dst.toNat=true:=by
 induction xs with
 |nil=>intro r x h;cases h
 |cons y l ih=>
  intro r x hx h1 h2 h3
  show nth (passR l (stepR y r)) x.dst.toNat=true
  rcases List.mem_cons.1 hx with rfl|hx
  ·exact passR_up (by rw [stepR_length];exact h2) (by unfold stepR;rw [nth_set_self h2,h3];simp)
  ·exact ih hx (by rw [stepR_length];exact h1) (by rw [stepR_length];exact h2) (stepR_up h1 h3)
theorem nth_mem' {T:Type}[Inhabited T]{xs:List T}{i:Nat}(h:i < xs.length):nth xs i∈xs:=by rw [nth_eq h];exact List.getElem_mem h
theorem iterR_up {xs:List TChan}{r:List Bool}{j:Nat}(hj:j < r.length)(h:nth r j=true):∀n,nth (iterR xs n r) j=true:=by
 intro n
 induction n with
 |zero=>exact h
 |succ n ih=>unfold iterR;exact passR_up (by rw [iterR_length];exact hj) ih
theorem reaches_self {c:TCfg}{i:Nat}(h:i < c.doms.toNat):reaches c i i=true:=by
 unfold reaches reachRow
 exact iterR_up (by rw [unitR_length];exact h) (by unfold unitR;rw [nth_set_self (by simpa using h)]) _
theorem reaches_edge {c:TCfg}(ok:CfgOk c){i k:Nat}(hi:i < c.chans.length)(hk:k < c.doms.toNat)(h:reaches c k (nth c.chans i).src.toNat=true):reaches c k (nth c.chans i).dst.toNat=true:=by
 have hc:=ok.chan i hi
 unfold reaches at*
 rw [← reach_fix hk]
 exact passR_edge (nth_mem' hi) (by rw [reachRow_length];omega) (by rw [reachRow_length];omega) h
theorem iterR_within {xs:List TChan}{r S:List Bool}(hS:∀x∈xs,nth S x.src.toNat=true→nth S x.dst.toNat=true)(hl:∀x∈xs,x.dst.toNat < r.length)(h:∀j,nth r j=true→nth S j=true):∀n j,nth (iterR xs n r) j=true→nth S j=true:=by
 have pass:∀ys:List TChan,(∀x∈ys,x∈xs)→∀q:List Bool,q.length=r.length→(∀j,nth q j=true→nth S j=true)→∀j,nth (passR ys q) j=true→nth S j=true:=by
  intro ys
  induction ys with
  |nil=>intro _ q _ hq j hj;exact hq j hj
  |cons y l ih=>
   intro hy q hq0 hq j hj
   refine ih (fun x hx=>hy x (by simp [hx])) (stepR y q) (by rw [stepR_length];exact hq0) (fun j hj=>?_) j hj
   have hym:=hy y (by simp)
   unfold stepR at hj
   by_cases e:y.dst.toNat=j
   ·subst e
    rw [nth_set_self (by rw [hq0];exact hl y hym),Bool.or_eq_true] at hj
    rcases hj with hj|hj
    ·exact hq _ hj
    ·exact hS y hym (hq _ hj)
   ·rw [nth_set_ne e] at hj;exact hq j hj
 intro n
 induction n with
 |zero=>exact h
 |succ n ih=>exact pass xs (fun _ h=>h) _ (iterR_length xs n r) ih
theorem reaches_back {c:TCfg}(ok:CfgOk c){i d:Nat}(hi:i < c.chans.length)(h:reaches c (nth c.chans i).dst.toNat d=true):reaches c (nth c.chans i).src.toNat d=true:=by
 have hc:=ok.chan i hi
 have hs:(nth c.chans i).src.toNat < c.doms.toNat:=by omega
 have hd:(nth c.chans i).dst.toNat < c.doms.toNat:=by omega
 have h1:nth (reachRow c (nth c.chans i).src.toNat) (nth c.chans i).dst.toNat=true:=reaches_edge ok hi hs (reaches_self hs)
 have hin:∀x∈c.chans,∃j,j < c.chans.length∧x=nth c.chans j:=fun x hx=>by
  obtain ⟨j,hj,rfl⟩:=List.getElem_of_mem hx
  exact ⟨j,hj,(nth_eq hj).symm⟩
 refine iterR_within (S:=reachRow c (nth c.chans i).src.toNat) (fun x hx hxs=>?_) (fun x hx=>?_) (fun j hj=>?_) c.doms.toNat d h
 ·obtain ⟨j,hj,rfl⟩:=hin x hx
  exact reaches_edge ok hj hs hxs
 ·obtain ⟨j,hj,rfl⟩:=hin x hx
  rw [unitR_length];have:=ok.chan j hj;omega
 ·unfold unitR at hj
  by_cases e:(nth c.chans i).dst.toNat=j
  ·subst e;exact h1
  ·rw [nth_set_ne e] at hj
   exfalso
   unfold nth at hj
   rw [List.getD_eq_getElem?_getD,List.getElem?_replicate] at hj
   split at hj<;>simp at hj
def RTo (c:TCfg) (d:Nat) (k:Nat):Prop:=(k:Int) < c.doms∧reaches c k d=true
theorem RTo.back {c:TCfg}(ok:CfgOk c)(d:Nat):∀i,i < c.chans.length→RTo c d (nth c.chans i).dst.toNat→RTo c d (nth c.chans i).src.toNat:=fun i hi h=>⟨by have:=ok.chan i hi;omega,reaches_back ok hi h.2⟩
def arrTo (c:TCfg) (d:Nat) (a:TArr):Bool:=reaches c (nth c.owners a.line.toNat).toNat d
def onlyOf (c:TCfg) (sc:TScr) (d:Nat):TScr:=
 ⟨(List.range sc.actions.length).map fun i=>if reaches c i d then nth sc.actions i else [],sc.arrivals.filter (arrTo c d),sc.rounds⟩
theorem nth_map_range {T:Type}[Inhabited T]{n i:Nat}{f:Nat→T}(h:i < n):nth ((List.range n).map f) i=f i:=by rw [nth_eq (by simpa using h)];simp
theorem arr_mem {c:TCfg}{sc:TScr}(h:ScrOk c sc){a:TArr}(ha:a∈sc.arrivals):0≤a.t∧a.t≤100000∧0≤a.line∧a.line < c.owners.length:=by
 obtain ⟨j,hj,rfl⟩:=List.getElem_of_mem ha
 rw [← nth_eq hj];exact h.arrs.2 j hj
theorem only_ok {c:TCfg}{sc:TScr}(h:ScrOk c sc)(d:Nat):ScrOk c (onlyOf c sc d):=by
 refine ⟨h.cfg,by simp [onlyOf];exact h.len,h.rounds,⟨Nat.le_trans (List.length_filter_le _ _) h.arrs.1,fun i hi=>?_⟩,fun i hi=>?_⟩
 ·exact arr_mem h (List.mem_filter.1 (nth_mem' hi)).1
 ·simp only [onlyOf,List.length_map,List.length_range] at hi
  have e:nth (onlyOf c sc d).actions i=if reaches c i d then nth sc.actions i else []:=nth_map_range hi
  rw [e]
  split
  ·exact h.acts i hi
  ·exact ⟨by simp,fun k hk=>by simp at hk⟩
end
end Go.Proofs.YtinlmkhlgclbfabDoor
