/- PickR -/
import Derived.Test.YtinlmkhlgclbfabWv17
namespace Go.Proofs.Ytinlmkhlgclbfab
open Go.RowKit
set_option maxRecDepth 100000
set_option maxHeartbeats 8000000
theorem job_set {w:World}{g:Nat}{t:TypeId}{fr:Nat×Nat}{v0 v1 v2 v3 v4 v5 u0 u1 u2 u3 u4 u5:Value}(h:w.heap[g]?=some (.cells #[v0,v1,v2,v3,v4,v5] t fr)):
  ((((((w.setCell ⟨g,0,none⟩ u0).setCell ⟨g,1,none⟩ u1).setCell ⟨g,2,none⟩ u2).setCell ⟨g,3,none⟩ u3).setCell ⟨g,4,none⟩ u4).setCell ⟨g,5,none⟩ u5).heap[g]?=some (.cells #[u0,u1,u2,u3,u4,u5] t fr):=by
 refine (heap_set_same (heap_set_same (heap_set_same (heap_set_same (heap_set_same (heap_set_same h)))))).trans ?_
 simp
theorem job_far {w:World}{g b:Nat}{u0 u1 u2 u3 u4 u5:Value}(h:b≠g):
  ((((((w.setCell ⟨g,0,none⟩ u0).setCell ⟨g,1,none⟩ u1).setCell ⟨g,2,none⟩ u2).setCell ⟨g,3,none⟩ u3).setCell ⟨g,4,none⟩ u4).setCell ⟨g,5,none⟩ u5).heap[b]?=w.heap[b]?:=by
 repeat rw [Below.heap_setCell _ _ _ _ h]
theorem job_below {B g:Nat}{w0 w:World}{u0 u1 u2 u3 u4 u5:Value}(h:Below B w0 w)(hg:B≤g):
  Below B w0 ((((((w.setCell ⟨g,0,none⟩ u0).setCell ⟨g,1,none⟩ u1).setCell ⟨g,2,none⟩ u2).setCell ⟨g,3,none⟩ u3).setCell ⟨g,4,none⟩ u4).setCell ⟨g,5,none⟩ u5):=
 (((((h.setCell hg _).setCell hg _).setCell hg _).setCell hg _).setCell hg _).setCell hg _
def firstTo (c:TCfg) (js:List TJob) (i k:Nat):Bool:= !anyI k fun j=>decide (j≠i)&&aheadI c js j i
theorem firstTo_zero (c:TCfg)(js:List TJob)(i:Nat):firstTo c js i 0=true:=by simp [firstTo,anyI]
theorem firstTo_all (c:TCfg)(js:List TJob)(i:Nat):firstTo c js i js.length=isFirst c js i:=rfl
def aheadX (c:TCfg) (js:List TJob) (i k:Nat):Prop:=lateOf c (nth js k) < lateOf c (nth js i)∨(lateOf c (nth js k)=lateOf c (nth js i)∧((nth js k).task < (nth js i).task∨((nth js k).task=(nth js i).task∧((nth js k).number < (nth js i).number∨((nth js k).number=(nth js i).number∧k < i)))))
theorem aheadX_iff {c:TCfg}{js:List TJob}{i k:Nat} :aheadX c js i k↔(decide (k≠i)&&aheadI c js k i)=true:=by
 unfold aheadX
 simp only [Bool.and_eq_true,decide_eq_true_eq]
 rw [aheadI_iff,aheadJ_iff,aheadJ_false]
 constructor
 ·intro h
  refine ⟨fun e=>?_,by omega⟩
  subst e
  omega
 ·rintro ⟨hne,h⟩
  omega
theorem firstTo_hit {c:TCfg}{js:List TJob}{i k:Nat}(h:aheadX c js i k):firstTo c js i (k+1)=false:=by
 unfold firstTo
 rw [Bool.not_eq_false',anyI_true]
 exact ⟨k,by omega,aheadX_iff.1 h⟩
theorem firstTo_miss {c:TCfg}{js:List TJob}{i k:Nat}(h:¬ aheadX c js i k):firstTo c js i (k+1)=firstTo c js i k:=by
 rw [aheadX_iff] at h
 unfold firstTo
 congr 1
 rw [Bool.eq_iff_iff,anyI_true,anyI_true]
 constructor
 ·rintro ⟨j,hj,e⟩
  by_cases hjk:j=k
  ·subst hjk;exact absurd e h
  ·exact ⟨j,by omega,e⟩
 ·rintro ⟨j,hj,e⟩
  exact ⟨j,by omega,e⟩
theorem refPickOf (c:TCfg)(S:TCfgS)(dom:Int)(d:TDom)(T:TDomS)(hc:CfgOk c)(hk:DomOkW c dom d)(B:Nat)(w:World)(hB:B≤w.heap.size)(hs:TCfg.At (Low B) w c S)(hd:TDom.At (Low B) w d T):
  Calls Try.prog 74 #[.agg #[.int .i64 c.sets,.int .i64 c.ways,.int .i64 c.doms,.int .i64 c.pad,.int .i64 c.quantum,.slice S.a0 c.slots.length S.n0,.slice S.a1 c.owners.length S.n1,.slice S.a2 c.chans.length S.n2,.slice S.a3 c.tasks.length S.n3],.agg #[.slice T.a0 d.jobs.length T.n0,.slice T.a1 d.released.length T.n1,.int .i64 d.next,.slice T.a2 d.ins.length T.n2,.slice T.a3 d.taken.length T.n3,.slice T.a4 d.outs.length T.n4,.slice T.a5 d.events.length T.n5]] w fun e w'=>e= .returned (.int .i64 (bestOf c d.jobs))∧Below w.heap.size w w':=by
 have hn20:=hk.njobs
 have h6:=hc.ntasks
 have HJ:=zH (fun i (h:i < d.jobs.length)=>(⟨hk.job i h,hc.job (hk.job i h)⟩:_∧_))
 have HB1:=zH (fun i (hi:i < d.jobs.length) (h0:∀j,j < i→isFirst c d.jobs j=false) (h1:firstTo c d.jobs i d.jobs.length=true)=>(show bestOf c d.jobs=(i:Int) from findI_hit hi h0 h1))
 have HB2:=zH (fun (h0:∀j,j < d.jobs.length→isFirst c d.jobs j=false)=>(show bestOf c d.jobs= -1 from findI_none h0))
 obtain ⟨a0,n0,a1,n1,a2,n2,a3,n3⟩:=S
 have hs3:=hs.s3
 obtain ⟨e0,k0,e1,k1,e2,k2,e3,k3,e4,k4,e5,k5⟩:=T
 have hd0:=hd.s0
 dsimp only at hs3 hd0⊢
 clear hs hd hc hk
 go_enter Try.func74,Try.ntmps74
 go_wp2_with fail
 go_loopw [5] (fun iv wr=>∃i:Nat,i≤d.jobs.length∧iv= .int .i64 i∧Hid (∀j,j < i→isFirst c d.jobs j=false)∧wr.heap[w.heap.size]?=some (.cells #[.int .i64 c.sets,.int .i64 c.ways,.int .i64 c.doms,.int .i64 c.pad,.int .i64 c.quantum,.slice a0 c.slots.length n0,.slice a1 c.owners.length n1,.slice a2 c.chans.length n2,.slice a3 c.tasks.length n3] 27)∧wr.heap[w.heap.size+1]?=some (.cells #[.slice e0 d.jobs.length k0,.slice e1 d.released.length k1,.int .i64 d.next,.slice e2 d.ins.length k2,.slice e3 d.taken.length k3,.slice e4 d.outs.length k4,.slice e5 d.events.length k5] 45)∧Below w.heap.size w wr) (fun iv _=>d.jobs.length - (intOf iv).toNat)
 case atStart=>exact ⟨0,Nat.zero_le _,rfl,(fun j hj=>by omega),byH,byH,byB⟩
 case round=>
  obtain ⟨i,hi,rfl,hq,hp,hpd,hbr⟩:=hrel
  obtain ⟨cp,fp,zp⟩:=blk hp
  obtain ⟨cpd,fpd,zpd⟩:=blk hpd
  by_cases hlt:i < d.jobs.length
  ·go_wp2_with fail
   go_loopw [6,7] (fun fv kv wr=>∃k:Nat,k≤d.jobs.length∧kv= .int .i64 k∧fv= .bool (firstTo c d.jobs i k)∧wr.heap[w.heap.size]?=some (.cells #[.int .i64 c.sets,.int .i64 c.ways,.int .i64 c.doms,.int .i64 c.pad,.int .i64 c.quantum,.slice a0 c.slots.length n0,.slice a1 c.owners.length n1,.slice a2 c.chans.length n2,.slice a3 c.tasks.length n3] 27)∧wr.heap[w.heap.size+1]?=some (.cells #[.slice e0 d.jobs.length k0,.slice e1 d.released.length k1,.int .i64 d.next,.slice e2 d.ins.length k2,.slice e3 d.taken.length k3,.slice e4 d.outs.length k4,.slice e5 d.events.length k5] 45)∧Below w.heap.size w wr) (fun fv kv _=>d.jobs.length - (intOf kv).toNat)
   case atStart=>exact ⟨0,Nat.zero_le _,rfl,by rw [firstTo_zero],hp,hpd,hbr⟩
   case round=>
    clear cp fp zp cpd fpd zpd hp hpd hbr
    obtain ⟨k,hkl,rfl,rfl,hp,hpd,hbr'⟩:=hrel
    have so:=hbr'.size
    obtain ⟨cp,fp,zp⟩:=blk hp
    by_cases hkt:k < d.jobs.length
    ·obtain ⟨b,o,rfl,hI,c0,c1,c2,c3,c4,c5⟩:=(hd0.next hB hbr').at_job hlt
     obtain ⟨b',o',eb,_,d0,d1,d2,d3,d4,d5⟩:=(hd0.next hB hbr').at_job hkt
     injection eb with eb;injection eb with eb1 eb2
     subst eb1;subst eb2
     obtain ⟨cpd,fpd,zpd⟩:=blk hpd
     have hbl:b < w.heap.size:=Nat.lt_of_lt_of_le hI hB
     have hbr:b < wr.heap.size:=by omega
     obtain ⟨hji,hpi⟩:=HJ.out i hlt
     obtain ⟨hjk,hpk⟩:=HJ.out k hkt
     have HT:=zH (fun h=>firstTo_hit (c:=c) (js:=d.jobs) (i:=i) (k:=k) h)
     have HF:=zH (fun h=>firstTo_miss (c:=c) (js:=d.jobs) (i:=i) (k:=k) h)
     unfold aheadX lateOf at HT HF
     obtain ⟨ti,hti⟩:=Int.eq_ofNat_of_zero_le hji.task.1
     obtain ⟨tk,htk⟩:=Int.eq_ofNat_of_zero_le hjk.task.1
     have hil:=hji.task.2
     have hkl2:=hjk.task.2
     have hri:=hji.released
     have hrk:=hjk.released
     clear hji hjk
     rw [hti] at c0 HT HF hpi hil
     rw [htk] at d0 HT HF hpk hkl2
     generalize nth d.jobs i=ji at*
     generalize nth d.jobs k=jk at*
     rw [show taskOf c (ti:Int)=nth c.tasks ti by simp [taskOf]] at hpi HT HF
     rw [show taskOf c (tk:Int)=nth c.tasks tk by simp [taskOf]] at hpk HT HF
     obtain ⟨bt,ot,rfl,hIt,_,_,_,ct3⟩:=(hs3.next hB hbr').at_task (show ti < c.tasks.length by omega)
     obtain ⟨bt',ot',ebt,_,_,_,_,du3⟩:=(hs3.next hB hbr').at_task (show tk < c.tasks.length by omega)
     injection ebt with ebt;injection ebt with eb1 eb2
     subst eb1;subst eb2
     have hbtl:bt < w.heap.size:=Nat.lt_of_lt_of_le hIt hB
     have hbtr:bt < wr.heap.size:=by omega
     generalize nth c.tasks ti=Ti at*
     generalize nth c.tasks tk=Tk at*
     have hw1:IntKind.i64.wrap (ji.released+Ti.dead)=ji.released+Ti.dead:=IntWalk.i64_in _ (by omega)
     have hw2:IntKind.i64.wrap (jk.released+Tk.dead)=jk.released+Tk.dead:=IntWalk.i64_in _ (by omega)
     have hi0:(0:Int)≤i:=by omega
     have hi1:(i:Int) < d.jobs.length:=by omega
     have hk0:(0:Int)≤k:=by omega
     have hk1:(k:Int) < d.jobs.length:=by omega
     have ht0:(0:Int)≤ti:=by omega
     have hu0:(0:Int)≤tk:=by omega
     go_wp2_with fail
     refine wp_region_inv [26,27,28,29,30,31,32,33,34,35,8,9] (fun l f W=>(Below wr.heap.size wr W∧l.size=14∧(Lst l 10→Lst l 11→f 8≠f 9))∧Fa l 0 (f 26= .pointer (some ⟨w.heap.size+1,0,none⟩))∧Fa l 1 (f 27= .slice (some ⟨b,o,none⟩) d.jobs.length k0)∧Fa l 2 (f 28= .int .i64 i)∧Fa l 3 (f 29= .pointer (some ⟨b,o+i*6,none⟩))∧Fa l 4 (f 30= .agg #[.int .i64 (ti:Int),.int .i64 ji.number,.int .i64 ji.released,.int .i64 ji.used,.bool ji.ran,.bool ji.missed])∧Fa l 5 (f 31= .pointer (some ⟨w.heap.size+1,0,none⟩))∧Fa l 6 (f 32= .slice (some ⟨b,o,none⟩) d.jobs.length k0)∧Fa l 7 (f 33= .int .i64 k)∧Fa l 8 (f 34= .pointer (some ⟨b,o+k*6,none⟩))∧Fa l 9 (f 35= .agg #[.int .i64 (tk:Int),.int .i64 jk.number,.int .i64 jk.released,.int .i64 jk.used,.bool jk.ran,.bool jk.missed])∧Fa l 10 (∃g,f 8= .pointer (some ⟨g,0,none⟩)∧wr.heap.size≤g∧g < W.heap.size∧(¬ Lst l 12→W.heap[g]?=some (.cells #[.int .i64 0,.int .i64 0,.int .i64 0,.int .i64 0,.bool false,.bool false] 110))∧(Lst l 12→Lst l 10∧W.heap[g]?=some (.cells #[.int .i64 (ti:Int),.int .i64 ji.number,.int .i64 ji.released,.int .i64 ji.used,.bool ji.ran,.bool ji.missed] 110)))∧Fa l 11 (∃g,f 9= .pointer (some ⟨g,0,none⟩)∧wr.heap.size≤g∧g < W.heap.size∧(¬ Lst l 13→W.heap[g]?=some (.cells #[.int .i64 0,.int .i64 0,.int .i64 0,.int .i64 0,.bool false,.bool false] 110))∧(Lst l 13→Lst l 11∧W.heap[g]?=some (.cells #[.int .i64 (tk:Int),.int .i64 jk.number,.int .i64 jk.released,.int .i64 jk.used,.bool jk.ran,.bool jk.missed] 110)))∧Fa l 12 ((Lst l 10)∧True)∧Fa l 13 ((Lst l 11)∧True)) (by kernel_rfl) (by decide) (by kernel_rfl) (by intro s hs;simp at hs⊢;omega) ?_ ?_ ?_
     ·intro l hz hl
      exact ⟨⟨(Below.refl _ _).drew,hz,fun h=>(hl 10 h).elim⟩,.no (hl 0),.no (hl 1),.no (hl 2),.no (hl 3),.no (hl 4),.no (hl 5),.no (hl 6),.no (hl 7),.no (hl 8),.no (hl 9),.no (hl 10),.no (hl 11),.no (hl 12),.no (hl 13)⟩
     ·refine StepsL.c 1 [] (fun l f W hR hn hb K Q2 hK=>?_) ?_
      ·obtain ⟨hS,h0,h1,h2,h3,h4,h5,h6,h7,h8,h9,h10,h11,h12,h13⟩:=hR
       clear hb
       refine ⟨?_⟩
       simp only [pfs] at hK⊢
       go_simp
       refine hK.out _ _ ⟨⟨hS.1,by simpa using hS.2.1,fun h1 h2=>hS.2.2 h1.b h2.b⟩,⟨fun _=>rfl⟩,h1.k,h2.k,h3.k,h4.k,h5.k,h6.k,h7.k,h8.k,h9.k,⟨fun hl=>let ⟨g2,a,b2,c2,e2,q2⟩:=(h10.out hl.b);⟨g2,a,b2,c2,fun h=>e2 fun h2=>h h2.fwd,fun h=>⟨(q2 h.b).1.fwd,(q2 h.b).2⟩⟩⟩,⟨fun hl=>let ⟨g2,a,b2,c2,e2,q2⟩:=(h11.out hl.b);⟨g2,a,b2,c2,fun h=>e2 fun h2=>h h2.fwd,fun h=>⟨(q2 h.b).1.fwd,(q2 h.b).2⟩⟩⟩,⟨fun hl=>⟨(h12.out hl.b).1.fwd,trivial⟩⟩,⟨fun hl=>⟨(h13.out hl.b).1.fwd,trivial⟩⟩⟩
      refine StepsL.c 2 [0] (fun l f W hR hn hb K Q2 hK=>?_) ?_
      ·obtain ⟨hS,h0,h1,h2,h3,h4,h5,h6,h7,h8,h9,h10,h11,h12,h13⟩:=hR
       have q0:=h0.out (hb 0 (by simp))
       clear hb
       refine ⟨?_⟩
       simp only [pfs] at hK⊢
       (try simp only [q0] at hK)
       have cd2:=(hS.1.cell (p:=⟨w.heap.size+1,0,none⟩) (by show w.heap.size+1 < wr.heap.size;omega)).trans (cpd 0)
       go_simp
       refine hK.out _ _ ⟨⟨hS.1,by simpa using hS.2.1,fun h1 h2=>hS.2.2 h1.b h2.b⟩,h0.k,⟨fun _=>rfl⟩,h2.k,h3.k,h4.k,h5.k,h6.k,h7.k,h8.k,h9.k,⟨fun hl=>let ⟨g2,a,b2,c2,e2,q2⟩:=(h10.out hl.b);⟨g2,a,b2,c2,fun h=>e2 fun h2=>h h2.fwd,fun h=>⟨(q2 h.b).1.fwd,(q2 h.b).2⟩⟩⟩,⟨fun hl=>let ⟨g2,a,b2,c2,e2,q2⟩:=(h11.out hl.b);⟨g2,a,b2,c2,fun h=>e2 fun h2=>h h2.fwd,fun h=>⟨(q2 h.b).1.fwd,(q2 h.b).2⟩⟩⟩,⟨fun hl=>⟨(h12.out hl.b).1.fwd,trivial⟩⟩,⟨fun hl=>⟨(h13.out hl.b).1.fwd,trivial⟩⟩⟩
      refine StepsL.c 3 [] (fun l f W hR hn hb K Q2 hK=>?_) ?_
      ·obtain ⟨hS,h0,h1,h2,h3,h4,h5,h6,h7,h8,h9,h10,h11,h12,h13⟩:=hR
       clear hb
       refine ⟨?_⟩
       simp only [pfs] at hK⊢
       go_simp
       refine hK.out _ _ ⟨⟨hS.1,by simpa using hS.2.1,fun h1 h2=>hS.2.2 h1.b h2.b⟩,h0.k,h1.k,⟨fun _=>rfl⟩,h3.k,h4.k,h5.k,h6.k,h7.k,h8.k,h9.k,⟨fun hl=>let ⟨g2,a,b2,c2,e2,q2⟩:=(h10.out hl.b);⟨g2,a,b2,c2,fun h=>e2 fun h2=>h h2.fwd,fun h=>⟨(q2 h.b).1.fwd,(q2 h.b).2⟩⟩⟩,⟨fun hl=>let ⟨g2,a,b2,c2,e2,q2⟩:=(h11.out hl.b);⟨g2,a,b2,c2,fun h=>e2 fun h2=>h h2.fwd,fun h=>⟨(q2 h.b).1.fwd,(q2 h.b).2⟩⟩⟩,⟨fun hl=>⟨(h12.out hl.b).1.fwd,trivial⟩⟩,⟨fun hl=>⟨(h13.out hl.b).1.fwd,trivial⟩⟩⟩
      refine StepsL.c 4 [1,2] (fun l f W hR hn hb K Q2 hK=>?_) ?_
      ·obtain ⟨hS,h0,h1,h2,h3,h4,h5,h6,h7,h8,h9,h10,h11,h12,h13⟩:=hR
       have q1:=h1.out (hb 1 (by simp))
       have q2:=h2.out (hb 2 (by simp))
       clear hb
       refine ⟨?_⟩
       simp only [pfs] at hK⊢
       (try simp only [q1,q2] at hK)
       go_simp
       refine hK.out _ _ ⟨⟨hS.1,by simpa using hS.2.1,fun h1 h2=>hS.2.2 h1.b h2.b⟩,h0.k,h1.k,h2.k,⟨fun _=>rfl⟩,h4.k,h5.k,h6.k,h7.k,h8.k,h9.k,⟨fun hl=>let ⟨g2,a,b2,c2,e2,q2⟩:=(h10.out hl.b);⟨g2,a,b2,c2,fun h=>e2 fun h2=>h h2.fwd,fun h=>⟨(q2 h.b).1.fwd,(q2 h.b).2⟩⟩⟩,⟨fun hl=>let ⟨g2,a,b2,c2,e2,q2⟩:=(h11.out hl.b);⟨g2,a,b2,c2,fun h=>e2 fun h2=>h h2.fwd,fun h=>⟨(q2 h.b).1.fwd,(q2 h.b).2⟩⟩⟩,⟨fun hl=>⟨(h12.out hl.b).1.fwd,trivial⟩⟩,⟨fun hl=>⟨(h13.out hl.b).1.fwd,trivial⟩⟩⟩
      refine StepsL.c 5 [3] (fun l f W hR hn hb K Q2 hK=>?_) ?_
      ·obtain ⟨hS,h0,h1,h2,h3,h4,h5,h6,h7,h8,h9,h10,h11,h12,h13⟩:=hR
       have q3:=h3.out (hb 3 (by simp))
       clear hb
       refine ⟨?_⟩
       simp only [pfs] at hK⊢
       (try simp only [q3] at hK)
       have c0w:=(hS.1.cell (p:=⟨b,_,none⟩) hbr).trans c0
       have c1w:=(hS.1.cell (p:=⟨b,_,none⟩) hbr).trans c1
       have c2w:=(hS.1.cell (p:=⟨b,_,none⟩) hbr).trans c2
       have c3w:=(hS.1.cell (p:=⟨b,_,none⟩) hbr).trans c3
       have c4w:=(hS.1.cell (p:=⟨b,_,none⟩) hbr).trans c4
       have c5w:=(hS.1.cell (p:=⟨b,_,none⟩) hbr).trans c5
       go_simp
       refine hK.out _ _ ⟨⟨hS.1,by simpa using hS.2.1,fun h1 h2=>hS.2.2 h1.b h2.b⟩,h0.k,h1.k,h2.k,h3.k,⟨fun _=>rfl⟩,h5.k,h6.k,h7.k,h8.k,h9.k,⟨fun hl=>let ⟨g2,a,b2,c2,e2,q2⟩:=(h10.out hl.b);⟨g2,a,b2,c2,fun h=>e2 fun h2=>h h2.fwd,fun h=>⟨(q2 h.b).1.fwd,(q2 h.b).2⟩⟩⟩,⟨fun hl=>let ⟨g2,a,b2,c2,e2,q2⟩:=(h11.out hl.b);⟨g2,a,b2,c2,fun h=>e2 fun h2=>h h2.fwd,fun h=>⟨(q2 h.b).1.fwd,(q2 h.b).2⟩⟩⟩,⟨fun hl=>⟨(h12.out hl.b).1.fwd,trivial⟩⟩,⟨fun hl=>⟨(h13.out hl.b).1.fwd,trivial⟩⟩⟩
      refine StepsL.c 6 [] (fun l f W hR hn hb K Q2 hK=>?_) ?_
      ·obtain ⟨hS,h0,h1,h2,h3,h4,h5,h6,h7,h8,h9,h10,h11,h12,h13⟩:=hR
       clear hb
       refine ⟨?_⟩
       simp only [pfs] at hK⊢
       go_simp
       refine hK.out _ _ ⟨⟨hS.1,by simpa using hS.2.1,fun h1 h2=>hS.2.2 h1.b h2.b⟩,h0.k,h1.k,h2.k,h3.k,h4.k,⟨fun _=>rfl⟩,h6.k,h7.k,h8.k,h9.k,⟨fun hl=>let ⟨g2,a,b2,c2,e2,q2⟩:=(h10.out hl.b);⟨g2,a,b2,c2,fun h=>e2 fun h2=>h h2.fwd,fun h=>⟨(q2 h.b).1.fwd,(q2 h.b).2⟩⟩⟩,⟨fun hl=>let ⟨g2,a,b2,c2,e2,q2⟩:=(h11.out hl.b);⟨g2,a,b2,c2,fun h=>e2 fun h2=>h h2.fwd,fun h=>⟨(q2 h.b).1.fwd,(q2 h.b).2⟩⟩⟩,⟨fun hl=>⟨(h12.out hl.b).1.fwd,trivial⟩⟩,⟨fun hl=>⟨(h13.out hl.b).1.fwd,trivial⟩⟩⟩
      refine StepsL.c 7 [5] (fun l f W hR hn hb K Q2 hK=>?_) ?_
      ·obtain ⟨hS,h0,h1,h2,h3,h4,h5,h6,h7,h8,h9,h10,h11,h12,h13⟩:=hR
       have q5:=h5.out (hb 5 (by simp))
       clear hb
       refine ⟨?_⟩
       simp only [pfs] at hK⊢
       (try simp only [q5] at hK)
       have cd2:=(hS.1.cell (p:=⟨w.heap.size+1,0,none⟩) (by show w.heap.size+1 < wr.heap.size;omega)).trans (cpd 0)
       go_simp
       refine hK.out _ _ ⟨⟨hS.1,by simpa using hS.2.1,fun h1 h2=>hS.2.2 h1.b h2.b⟩,h0.k,h1.k,h2.k,h3.k,h4.k,h5.k,⟨fun _=>rfl⟩,h7.k,h8.k,h9.k,⟨fun hl=>let ⟨g2,a,b2,c2,e2,q2⟩:=(h10.out hl.b);⟨g2,a,b2,c2,fun h=>e2 fun h2=>h h2.fwd,fun h=>⟨(q2 h.b).1.fwd,(q2 h.b).2⟩⟩⟩,⟨fun hl=>let ⟨g2,a,b2,c2,e2,q2⟩:=(h11.out hl.b);⟨g2,a,b2,c2,fun h=>e2 fun h2=>h h2.fwd,fun h=>⟨(q2 h.b).1.fwd,(q2 h.b).2⟩⟩⟩,⟨fun hl=>⟨(h12.out hl.b).1.fwd,trivial⟩⟩,⟨fun hl=>⟨(h13.out hl.b).1.fwd,trivial⟩⟩⟩
      refine StepsL.c 8 [] (fun l f W hR hn hb K Q2 hK=>?_) ?_
      ·obtain ⟨hS,h0,h1,h2,h3,h4,h5,h6,h7,h8,h9,h10,h11,h12,h13⟩:=hR
       clear hb
       refine ⟨?_⟩
       simp only [pfs] at hK⊢
       go_simp
       refine hK.out _ _ ⟨⟨hS.1,by simpa using hS.2.1,fun h1 h2=>hS.2.2 h1.b h2.b⟩,h0.k,h1.k,h2.k,h3.k,h4.k,h5.k,h6.k,⟨fun _=>rfl⟩,h8.k,h9.k,⟨fun hl=>let ⟨g2,a,b2,c2,e2,q2⟩:=(h10.out hl.b);⟨g2,a,b2,c2,fun h=>e2 fun h2=>h h2.fwd,fun h=>⟨(q2 h.b).1.fwd,(q2 h.b).2⟩⟩⟩,⟨fun hl=>let ⟨g2,a,b2,c2,e2,q2⟩:=(h11.out hl.b);⟨g2,a,b2,c2,fun h=>e2 fun h2=>h h2.fwd,fun h=>⟨(q2 h.b).1.fwd,(q2 h.b).2⟩⟩⟩,⟨fun hl=>⟨(h12.out hl.b).1.fwd,trivial⟩⟩,⟨fun hl=>⟨(h13.out hl.b).1.fwd,trivial⟩⟩⟩
      refine StepsL.c 9 [6,7] (fun l f W hR hn hb K Q2 hK=>?_) ?_
      ·obtain ⟨hS,h0,h1,h2,h3,h4,h5,h6,h7,h8,h9,h10,h11,h12,h13⟩:=hR
       have q6:=h6.out (hb 6 (by simp))
       have q7:=h7.out (hb 7 (by simp))
       clear hb
       refine ⟨?_⟩
       simp only [pfs] at hK⊢
       (try simp only [q6,q7] at hK)
       go_simp
       refine hK.out _ _ ⟨⟨hS.1,by simpa using hS.2.1,fun h1 h2=>hS.2.2 h1.b h2.b⟩,h0.k,h1.k,h2.k,h3.k,h4.k,h5.k,h6.k,h7.k,⟨fun _=>rfl⟩,h9.k,⟨fun hl=>let ⟨g2,a,b2,c2,e2,q2⟩:=(h10.out hl.b);⟨g2,a,b2,c2,fun h=>e2 fun h2=>h h2.fwd,fun h=>⟨(q2 h.b).1.fwd,(q2 h.b).2⟩⟩⟩,⟨fun hl=>let ⟨g2,a,b2,c2,e2,q2⟩:=(h11.out hl.b);⟨g2,a,b2,c2,fun h=>e2 fun h2=>h h2.fwd,fun h=>⟨(q2 h.b).1.fwd,(q2 h.b).2⟩⟩⟩,⟨fun hl=>⟨(h12.out hl.b).1.fwd,trivial⟩⟩,⟨fun hl=>⟨(h13.out hl.b).1.fwd,trivial⟩⟩⟩
      refine StepsL.c 10 [8] (fun l f W hR hn hb K Q2 hK=>?_) ?_
      ·obtain ⟨hS,h0,h1,h2,h3,h4,h5,h6,h7,h8,h9,h10,h11,h12,h13⟩:=hR
       have q8:=h8.out (hb 8 (by simp))
       clear hb
       refine ⟨?_⟩
       simp only [pfs] at hK⊢
       (try simp only [q8] at hK)
       have d0w:=(hS.1.cell (p:=⟨b,_,none⟩) hbr).trans d0
       have d1w:=(hS.1.cell (p:=⟨b,_,none⟩) hbr).trans d1
       have d2w:=(hS.1.cell (p:=⟨b,_,none⟩) hbr).trans d2
       have d3w:=(hS.1.cell (p:=⟨b,_,none⟩) hbr).trans d3
       have d4w:=(hS.1.cell (p:=⟨b,_,none⟩) hbr).trans d4
       have d5w:=(hS.1.cell (p:=⟨b,_,none⟩) hbr).trans d5
       go_simp
       refine hK.out _ _ ⟨⟨hS.1,by simpa using hS.2.1,fun h1 h2=>hS.2.2 h1.b h2.b⟩,h0.k,h1.k,h2.k,h3.k,h4.k,h5.k,h6.k,h7.k,h8.k,⟨fun _=>rfl⟩,⟨fun hl=>let ⟨g2,a,b2,c2,e2,q2⟩:=(h10.out hl.b);⟨g2,a,b2,c2,fun h=>e2 fun h2=>h h2.fwd,fun h=>⟨(q2 h.b).1.fwd,(q2 h.b).2⟩⟩⟩,⟨fun hl=>let ⟨g2,a,b2,c2,e2,q2⟩:=(h11.out hl.b);⟨g2,a,b2,c2,fun h=>e2 fun h2=>h h2.fwd,fun h=>⟨(q2 h.b).1.fwd,(q2 h.b).2⟩⟩⟩,⟨fun hl=>⟨(h12.out hl.b).1.fwd,trivial⟩⟩,⟨fun hl=>⟨(h13.out hl.b).1.fwd,trivial⟩⟩⟩
      refine StepsL.c 11 [] (fun l f W hR hn hb K Q2 hK=>?_) ?_
      ·obtain ⟨hS,h0,h1,h2,h3,h4,h5,h6,h7,h8,h9,h10,h11,h12,h13⟩:=hR
       clear hb
       refine ⟨?_⟩
       simp only [pfs] at hK⊢
       have hsz:=hS.1.size
       go_simp
       refine hK.out _ _ ⟨⟨hS.1.alloc (by omega) _,by simpa using hS.2.1,fun h1 h2=>fun e=>by obtain ⟨g2,e2,_,hl2,_⟩:=h11.out h2.b;have e:Value.pointer (some ⟨W.heap.size,0,none⟩)=f 9:=e;rw [e2] at e;injection e with e;injection e with e;injection e with e;omega⟩,h0.k,h1.k,h2.k,h3.k,h4.k,h5.k,h6.k,h7.k,h8.k,h9.k,⟨fun _=>⟨W.heap.size,rfl,hsz,by simp,fun _=>heapAt _ _ _ rfl,fun h=>absurd ((h12.out h.b)) (fun h2=>hn h2.1)⟩⟩,⟨fun hl=>let ⟨g2,a,b2,c2,e2,q2⟩:=(h11.out hl.b);⟨g2,a,b2,by simp;omega,fun h=>(heap_alloc_old _ _ c2).trans (e2 fun h2=>h h2.fwd),fun h=>⟨(q2 h.b).1.fwd,(heap_alloc_old _ _ c2).trans (q2 h.b).2⟩⟩⟩,⟨fun hl=>⟨(h12.out hl.b).1.fwd,trivial⟩⟩,⟨fun hl=>⟨(h13.out hl.b).1.fwd,trivial⟩⟩⟩
      refine StepsL.c 12 [] (fun l f W hR hn hb K Q2 hK=>?_) ?_
      ·obtain ⟨hS,h0,h1,h2,h3,h4,h5,h6,h7,h8,h9,h10,h11,h12,h13⟩:=hR
       clear hb
       refine ⟨?_⟩
       simp only [pfs] at hK⊢
       have hsz:=hS.1.size
       go_simp
       refine hK.out _ _ ⟨⟨hS.1.alloc (by omega) _,by simpa using hS.2.1,fun h1 h2=>fun e=>by obtain ⟨g2,e2,_,hl2,_⟩:=h10.out h1.b;have e:f 8=Value.pointer (some ⟨W.heap.size,0,none⟩):=e;rw [e2] at e;injection e with e;injection e with e;injection e with e;omega⟩,h0.k,h1.k,h2.k,h3.k,h4.k,h5.k,h6.k,h7.k,h8.k,h9.k,⟨fun hl=>let ⟨g2,a,b2,c2,e2,q2⟩:=(h10.out hl.b);⟨g2,a,b2,by simp;omega,fun h=>(heap_alloc_old _ _ c2).trans (e2 fun h2=>h h2.fwd),fun h=>⟨(q2 h.b).1.fwd,(heap_alloc_old _ _ c2).trans (q2 h.b).2⟩⟩⟩,⟨fun _=>⟨W.heap.size,rfl,hsz,by simp,fun _=>heapAt _ _ _ rfl,fun h=>absurd ((h13.out h.b)) (fun h2=>hn h2.1)⟩⟩,⟨fun hl=>⟨(h12.out hl.b).1.fwd,trivial⟩⟩,⟨fun hl=>⟨(h13.out hl.b).1.fwd,trivial⟩⟩⟩
      refine StepsL.c 13 [10,4,0,1,2,3,4,10,11] (fun l f W hR hn hb K Q2 hK=>?_) ?_
      ·obtain ⟨hS,h0,h1,h2,h3,h4,h5,h6,h7,h8,h9,h10,h11,h12,h13⟩:=hR
       have q0:=h0.out (hb 0 (by simp))
       have q1:=h1.out (hb 1 (by simp))
       have q2:=h2.out (hb 2 (by simp))
       have q3:=h3.out (hb 3 (by simp))
       have q4:=h4.out (hb 4 (by simp))
       have q10:=h10.out (hb 10 (by simp))
       have q11:=h11.out (hb 11 (by simp))
       have hb1:=hb 1 (by simp)
       have hb10:=hb 10 (by simp)
       obtain ⟨g,eg,hgl,hgs,hz0,_⟩:=q10
       have hz0:=hz0 hn
       have LB:=hb10
       clear hb
       refine ⟨?_⟩
       simp only [pfs] at hK⊢
       (try simp only [q0,q1,q2,q3,q4,eg] at hK)
       obtain ⟨cX,fX,zX⟩:=blk hz0
       go_simp
       refine hK.out undef _ ⟨⟨job_below hS.1 (by omega),by simpa using hS.2.1,fun h1 h2=>hS.2.2 h1.b h2.b⟩,h0.k,h1.k,h2.k,h3.k,h4.k,h5.k,h6.k,h7.k,h8.k,h9.k,⟨fun hl=>⟨g,eg,hgl,by simpa using hgs,fun h=>absurd (Lst.self (by rw [hS.2.1];omega)) h,fun _=>⟨LB.fwd,job_set hz0⟩⟩⟩,⟨fun hl=>let ⟨g2,a,b2,c2,e2,q2⟩:=(h11.out hl.b);have hne:g2≠g:=fun e=>hS.2.2 (LB) hl.b (by rw [eg,a,e]);⟨g2,a,b2,by simpa using c2,fun h=>(job_far hne).trans (e2 fun h2=>h h2.fwd),fun h=>⟨(q2 h.b).1.fwd,(job_far hne).trans (q2 h.b).2⟩⟩⟩,⟨fun _=>⟨LB.fwd,trivial⟩⟩,⟨fun hl=>⟨(h13.out hl.b).1.fwd,trivial⟩⟩⟩
      refine StepsL.c 14 [11,9,12,0,1,2,3,4,5,6,7,8,9,10,11,12] (fun l f W hR hn hb K Q2 hK=>?_) ?_
      ·obtain ⟨hS,h0,h1,h2,h3,h4,h5,h6,h7,h8,h9,h10,h11,h12,h13⟩:=hR
       have q0:=h0.out (hb 0 (by simp))
       have q1:=h1.out (hb 1 (by simp))
       have q2:=h2.out (hb 2 (by simp))
       have q3:=h3.out (hb 3 (by simp))
       have q4:=h4.out (hb 4 (by simp))
       have q5:=h5.out (hb 5 (by simp))
       have q6:=h6.out (hb 6 (by simp))
       have q7:=h7.out (hb 7 (by simp))
       have q8:=h8.out (hb 8 (by simp))
       have q9:=h9.out (hb 9 (by simp))
       have q10:=h10.out (hb 10 (by simp))
       have q11:=h11.out (hb 11 (by simp))
       have q12:=h12.out (hb 12 (by simp))
       have hb1:=hb 1 (by simp)
       have hb11:=hb 11 (by simp)
       obtain ⟨g,eg,hgl,hgs,hz0,_⟩:=q11
       have hz0:=hz0 hn
       have LB:=hb11
       clear hb
       refine ⟨?_⟩
       simp only [pfs] at hK⊢
       (try simp only [q0,q1,q2,q3,q4,q5,q6,q7,q8,q9,eg] at hK)
       obtain ⟨cX,fX,zX⟩:=blk hz0
       go_simp
       refine hK.out undef _ ⟨⟨job_below hS.1 (by omega),by simpa using hS.2.1,fun h1 h2=>hS.2.2 h1.b h2.b⟩,h0.k,h1.k,h2.k,h3.k,h4.k,h5.k,h6.k,h7.k,h8.k,h9.k,⟨fun hl=>let ⟨g2,a,b2,c2,e2,q2⟩:=(h10.out hl.b);have hne:g2≠g:=fun e=>hS.2.2 hl.b (LB) (by rw [eg,a,e]);⟨g2,a,b2,by simpa using c2,fun h=>(job_far hne).trans (e2 fun h2=>h h2.fwd),fun h=>⟨(q2 h.b).1.fwd,(job_far hne).trans (q2 h.b).2⟩⟩⟩,⟨fun hl=>⟨g,eg,hgl,by simpa using hgs,fun h=>absurd (Lst.self (by rw [hS.2.1];omega)) h,fun _=>⟨LB.fwd,job_set hz0⟩⟩⟩,⟨fun hl=>⟨(h12.out hl.b).1.fwd,trivial⟩⟩,⟨fun _=>⟨LB.fwd,trivial⟩⟩⟩
      exact StepsL.nil
     ·intro l f W hR hall
      obtain ⟨hS,h0,h1,h2,h3,h4,h5,h6,h7,h8,h9,h10,h11,h12,h13⟩:=hR
      have q0:=h0.out (hall 0 (by decide))
      have q1:=h1.out (hall 1 (by decide))
      have q2:=h2.out (hall 2 (by decide))
      have q3:=h3.out (hall 3 (by decide))
      have q4:=h4.out (hall 4 (by decide))
      have q5:=h5.out (hall 5 (by decide))
      have q6:=h6.out (hall 6 (by decide))
      have q7:=h7.out (hall 7 (by decide))
      have q8:=h8.out (hall 8 (by decide))
      have q9:=h9.out (hall 9 (by decide))
      have q10:=h10.out (hall 10 (by decide))
      have q11:=h11.out (hall 11 (by decide))
      have q12:=h12.out (hall 12 (by decide))
      have q13:=h13.out (hall 13 (by decide))
      clear h0 h1 h2 h3 h4 h5 h6 h7 h8 h9 h10 h11 h12 h13
      obtain ⟨g8,e8,l8,z8,_,hg8⟩:=q10
      obtain ⟨g9,e9,l9,z9,_,hg9⟩:=q11
      have hg8:=(hg8 (hall 12 (by decide))).2
      have hg9:=(hg9 (hall 13 (by decide))).2
      have hB2:=hS.1
      have hne:g8≠g9:=fun e=>hS.2.2 (hall 10 (by decide)) (hall 11 (by decide)) (by rw [e8,e9,e])
      simp only [pfs]
      simp only [e8,e9]
      clear q0 q1 q2 q3 q4 q5 q6 q7 q8 q9 q12 q13 hall hS e8 e9
      have hbr2:Below w.heap.size w W:=hbr'.trans (hB2.mono (by omega))
      have hbx2:=(hB2.block _ zp).trans hp
      have hby2:=(hB2.block _ zpd).trans hpd
      obtain ⟨cX,fX,zX⟩:=blk hbx2
      obtain ⟨cY,fY,zY⟩:=blk hby2
      obtain ⟨cG,fG,zG⟩:=blk hg8
      obtain ⟨cH,fH,zH⟩:=blk hg9
      have t3:=(hB2.cell (p:=⟨bt,_,none⟩) hbtr).trans ct3
      have u3:=(hB2.cell (p:=⟨bt,_,none⟩) hbtr).trans du3
      clear cp fp zp cpd fpd zpd c0 c1 c2 c3 c4 c5 d0 d1 d2 d3 d4 d5 ct3 du3
      generalize hla:ji.released+Ti.dead=la at hw1 HT HF
      generalize hlb:jk.released+Tk.dead=lb at hw2 HT HF
      have hwa:IntKind.i64.wrap la=la:=hw1
      have hwb:IntKind.i64.wrap lb=lb:=hw2
      clear hw1 hw2
      go_wp2_with fail
      go_quiet (fail)
      go_wp2_with fail
      all_goals first|exact ⟨⟨k+1,by omega,by go_num,by rw [HT.out (by omega)],byH,byH,below_drewN hbr2 _⟩,by simp [intOf];omega⟩|exact ⟨⟨k+1,by omega,by go_num,by rw [HF.out (by omega)],byH,byH,below_drewN hbr2 _⟩,by simp [intOf];omega⟩
    ·obtain rfl:k=d.jobs.length:=by omega
     have so2:=so
     clear so
     obtain ⟨cpd,fpd,zpd⟩:=blk hpd
     cases hf:firstTo c d.jobs i d.jobs.length with
     |true=>
      go_wp2_with fail
      refine bodyPost_ret (v:= .int .i64 i) (by simp [results,Try.results74,go_sem, *]) rfl ?_
      exact ⟨by rw [HB1.out i hlt hq.out hf],hbr'⟩
     |false=>
      go_wp2_with fail
      exact ⟨⟨i+1,by omega,by go_num,zH (fun j hj=>by
       by_cases e:j=i
       ·subst e;rw [← firstTo_all];exact hf
       ·exact hq.out j (by omega)),byH,byH,hbr'⟩,by simp [intOf];omega⟩
  ·obtain rfl:i=d.jobs.length:=by omega
   go_wp2_with fail
   refine bodyPost_ret (v:= .int .i64 (-1)) (by simp [results,Try.results74,go_sem, *]) rfl ?_
   exact ⟨by rw [HB2.out hq.out],hbr⟩
end Go.Proofs.Ytinlmkhlgclbfab
