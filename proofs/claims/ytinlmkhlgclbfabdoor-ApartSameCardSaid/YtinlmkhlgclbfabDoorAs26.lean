/- KeepH -/
import Derived.Test.YtinlmkhlgclbfabDoorAs15
import Derived.Sort.QuietIn
namespace Go.Proofs.YtinlmkhlgclbfabDoor
open Go.RowKit Go.Shelf
attribute [local go_sem] Oper.semAt_some
set_option maxRecDepth 100000
set_option maxHeartbeats 4000000
theorem come_row {a:Option Addr}{g g':Nat}(h:a=some ⟨g,0,none⟩)(h':a=some ⟨g',0,none⟩):g=g':=by
 rw [h] at h';injection h' with e;injection e
theorem keeperCome (gk:Nat)(G:Nat→Nat→Prop)(B:Nat)(w:World)(c:TCfg)(S:TCfgS)(m now:Int)(d:TDom)(T:TDomS)(h:Kp gk G B w c S m d T)(hc:CfgOk c)(hd:DomOkW c m d)(hnow:0≤now∧now≤100000)(hev:d.events.length+40≤4398046511104):
  Calls Tryd.prog 69 #[.pointer (some ⟨gk,0,none⟩),.int .i64 now] w fun e w'=>∃G' T',e= .returned (.tuple #[])∧Kp gk G' B w' c S m (releaseOf c m now d) T'∧KEff gk B G G' w w':=by
 have hz:=(blk h.blk).2.2
 refine (callsIn_wide (n:=5)).1 ?_
 refine callsIn_of_wp_marks Tryd.func69 rfl trivial ?_ rfl
 simp only [Tryd.ntmps69,List.size_toArray,List.length_cons,List.length_nil,Nat.reduceAdd,Nat.reduceSub,Array.replicate_succ,Array.replicate_zero,List.push_toArray,List.append_toArray,List.nil_append,List.cons_append]
 gi_wp2
 refine wpIn_rangeB rfl (by omega) (gf:=80) (fb:=#[.pointer (some ⟨gk,0,none⟩)]) rfl trivial (enters_of Tryd.func80 (by kernel_rfl) rfl) (mineIt _ (by omega) gk B c S m hc.ntasks) (fun _=>rfl)
  (fun pre W=>Cm w gk G B c S m now T.a1 (relPre c now pre d) W) ?hRd ?hext ?hput ?h0
  (fun x=>⟨[.pointer (some ⟨gk,0,none⟩),.int .i64 now,.pointer (some ⟨w.heap.size,0,none⟩),.pointer (some ⟨w.heap.size+1,0,none⟩),.int .i64 x,undef,undef,undef,undef,.pointer (some ⟨gk,0,none⟩),.func (.func 80) #[.pointer (some ⟨gk,0,none⟩)] #[],.int .i64 x,undef,undef,undef,undef,undef,undef,undef,undef,undef,undef,undef,undef,undef,undef,undef,undef,undef,undef,undef,undef,undef,undef,undef,undef,undef,undef,undef,undef,undef,undef,undef,undef,undef,undef,undef,undef,undef,undef,undef,undef,undef,undef,undef,undef,undef,undef,undef,undef,undef,undef,undef,undef,undef,undef,undef,undef,undef,undef,undef,undef,undef,undef,undef,undef,undef,undef,undef,undef,undef,undef,undef,undef,undef,undef,undef,undef,undef,undef,undef,undef,undef,undef,undef,undef,undef,undef,undef,undef,undef,undef,undef,undef,undef,undef,undef,undef,undef,undef,undef,undef,undef,undef,undef,undef,undef,undef,undef,undef,undef,undef,undef,undef,undef,undef,undef,undef].toArray,[]⟩) ?assign ?body ?done
 case hRd=>
  intro pre A h
  obtain ⟨⟨G',T',hK,_⟩,_⟩:=h
  exact ⟨G',_,T',hK⟩
 case hext=>exact fun pre A A' h hx=>h.ext hx
 case hput=>exact fun pre A o h=>h.put (by simp) o
 case h0=>
  intro W1 hW1 hb
  have hbw:Below w.heap.size w W1:=Below.trans (byB) (hb.mono (by simp;omega))
  have hlo:=h.lo
  refine ⟨⟨G,T,h.ext hbw,KEff.ext (by omega) hbw,fun i b hb=> .inl hb,rfl⟩,(hb.block _ byS).trans byH,(hb.block _ byS).trans byH,by simpa using hW1,hz,h.lo,h.dom.lt,hd,?_⟩
  show d.events.length+(20 - d.jobs.length)≤_
  omega
 case assign=>
  intro l x W K hK
  gi_wp2
  exact hK
 case body=>
  rintro pre x W ⟨hx,hxm⟩ hsz hC hlen
  have hCs:=hC.size
  generalize hpd:relPre c now pre d=d0 at hC
  have hx6:=hc.ntasks
  gi_wp2
  gi_loopw [5] (fun av wr=>InR w W gk G B c S m now T.a1 x (relLoop c x now (relFuel x d0) d0) wr) (fun av wr=>relM T.a1 x wr)
  case atStart=>exact ⟨⟨d0,_,Nat.le_refl _,rfl,hC⟩,fun _ _ _=>rfl,Nat.le_refl _⟩
  case round=>
   obtain ⟨⟨d1,n1,hn1,htgt,hC1⟩,hold,hsw⟩:=hrel
   obtain ⟨G1,T1,hK1,hE1,hG1,ha1⟩:=hC1.all
   have hd1:=hC1.ok
   have hxr:x < d1.released.length:=by rw [hd1.lrel];exact hx
   obtain ⟨g,eg,hGg,hgl,hcr,hfr,hset⟩:=kp_rel hK1 hxr
   have hrl:=hd1.rel x hxr
   have hra:=relAt_rng hc hd1 hx
   have HN:=zH (fun k=>keeperNext gk G1 B (wr.drewN k) c S m d1 T1 (hK1.drewN k) x hx hxr (by have:=(hc.task x hx).2.1;omega) hrl hx6)
   have hmM:relM T.a1 x wr=(100000 - nth d1.released x).toNat:=by rw [← ha1,eg];simp [relM,hcr,intOf]
   have hbk:=hK1.blk
   rw [eg] at hbk
   obtain ⟨cb,fb,zb⟩:=blk hbk
   obtain ⟨c0,f0,z0⟩:=blk hC1.box0
   obtain ⟨c1,f1,z1⟩:=blk hC1.box1
   have hx0:(0:Int)≤x:=by omega
   have hxl:(x:Int) < d1.released.length:=by omega
   have hstop:∀k,relCan c x now d1=false→Cm w gk G B c S m now T.a1 (relPre c now (pre++[x]) d) (wr.drewN k):=by
    intro k hcan
    rw [relPre_snoc,hpd,← htgt,relLoop_stop hcan]
    exact hC1.ext (below_drewN (Below.refl _ _) k)
   have hout:=zH (⟨hold,hstop⟩:_∧_)
   have hgo:=zH (⟨hset,hK1,hE1,hG1,ha1,hC1,htgt,hn1⟩:_∧_∧_∧_∧_∧_∧_∧_)
   have hRR:relAt c x d1=relAt c x d1:=rfl
   have hbk2:=zH hbk
   have heg:=zH eg
   clear hold hstop hset hK1 hE1 hG1 ha1 hC1 htgt hn1 hbk eg
   generalize hR:relAt c x d1=R at hra HN hRR
   generalize hL:nth d1.released x=rl at hrl hcr hmM
   replace hR:=zH hR
   replace hL:=zH hL
   clear hRR
   by_cases hle:R≤now
   ·by_cases hlt:rl < 100000
    ·gi_wp2_with fail
     (refine wpR_region_quiet (by kernel_rfl) (by kernel_rfl) (fun ⟨_,_,h⟩=>Exit.noConfusion (And.left (show Exit.outgrown=Exit.normal∧_ from h))) (by kernel_rfl) ?_;(repeat (go_big_quiet_step ((go_at_call 81;with_reducible refine Calls.quiet_of (HN.out _)))));refine wpQuiet_nil ?_;rintro _ ⟨nq,rfl⟩)
     gi_wp2_with (refine ⟨trivial,?_⟩;gi_at_call 81;refine (CallsIn.inRound _ (callsIn_wide.2 (HN.out nq))).mono ?_;rintro e w2 ⟨rfl,n2,rfl⟩)
     ·generalize hWa:wr.drewN (nq+n2)=Wa
      have hCa:Cm w gk G B c S m now T.a1 d1 Wa:=by rw [← hWa];exact hgo.out.2.2.2.2.2.1.ext (below_drewN (Below.refl _ _) _)
      have hKa:Kp gk G1 B Wa c S m d1 T1:=by rw [← hWa];exact hgo.out.2.1.drewN _
      have hbx:=hCa.box0
      have hbg:Wa.heap[gk]?=some (.cells #[.int .i64 c.sets,.int .i64 c.ways,.int .i64 c.doms,.int .i64 c.pad,.int .i64 c.quantum,.slice S.a0 c.slots.length S.n0,.slice S.a1 c.owners.length S.n1,.slice S.a2 c.chans.length S.n2,.slice S.a3 c.tasks.length S.n3,.int .i64 m,.slice T1.a0 d1.jobs.length T1.n0,.slice (some ⟨g,0,none⟩) d1.released.length T1.n1,.int .i64 d1.next,.slice T1.a2 d1.ins.length T1.n2,.slice T1.a3 d1.taken.length T1.n3,.slice T1.a4 d1.outs.length T1.n4,.slice T1.a5 d1.events.length T1.n5] 136):=by rw [← hWa];exact hbk2.out
      have hcra:Wa.cell? ⟨g,x,none⟩=some (.int .i64 rl):=by rw [← hWa];exact hcr
      have hownJ:=zH (ozl_flat.1 hKa.dom.o0).1
      have hrow:=zH (ozl_flat.1 hKa.dom.o0).2
      have hnw:=zH (show ¬ G1 0 w.heap.size∧¬ G1 0 gk from ⟨fun h=>by rcases hgo.out.2.2.2.1 0 _ h with h|h;exact absurd (hCa.lt 0 _ h) (by omega);omega,fun h=>(hKa.apart 0 gk h).1 rfl⟩)
      have hnw0:=zH (show ∀i,¬ G1 i w.heap.size from fun i h=>by rcases hgo.out.2.2.2.1 i _ h with h|h;exact absurd (hCa.lt i _ h) (by omega);omega)
      have hone:=one_job [⟨x,rl,R,0,false,false⟩]
      have HJ:=fun {A:Option Addr} {cc:Nat} {w3:World} =>zH (kp_jobs gk G1 B Wa.drew c S m d1 T1 (hKa.drewN 1) ⟨x,rl,R,0,false,false⟩ (A:=A) (cc:=cc) (w3:=w3) (o:=(.cells #[.int .i64 x,.int .i64 rl,.int .i64 R,.int .i64 0,.bool false,.bool false] 74)))
      have hj20:=hd1.njobs
      replace hCa:=zH hCa
      replace hKa:=zH hKa
      replace hWa:=zH hWa
      have hjl:d1.jobs.length < 20:=by omega
      rw [show decide ((d1.jobs.length:Int) < 20)=true from decide_eq_true (by omega)]
      clear hcr cb fb c0 f0 hfr
      replace hcr:=hcra
      clear hcra
      refine wpR_region_inv [38,39,40,41,42,43,44,45,46,47,48,49,50,51,52,53,54,55,56,57,58,59] (fun l f W=>(W.heap[w.heap.size]?=some (.cells #[.pointer (some ⟨gk,0,none⟩)] 134)∧(¬ Lst l 22→W.heap[gk]?=some (.cells #[.int .i64 c.sets,.int .i64 c.ways,.int .i64 c.doms,.int .i64 c.pad,.int .i64 c.quantum,.slice S.a0 c.slots.length S.n0,.slice S.a1 c.owners.length S.n1,.slice S.a2 c.chans.length S.n2,.slice S.a3 c.tasks.length S.n3,.int .i64 m,.slice T1.a0 d1.jobs.length T1.n0,.slice (some ⟨g,0,none⟩) d1.released.length T1.n1,.int .i64 d1.next,.slice T1.a2 d1.ins.length T1.n2,.slice T1.a3 d1.taken.length T1.n3,.slice T1.a4 d1.outs.length T1.n4,.slice T1.a5 d1.events.length T1.n5] 136))∧(¬ Lst l 17→W=Wa.drew)∧l.size=23)∧Fa l 0 (f 38= .pointer (some ⟨gk,0,none⟩))∧Fa l 1 (f 39= .pointer (some ⟨gk,0,none⟩))∧Fa l 2 (f 40= .pointer (some ⟨gk,0,none⟩))∧Fa l 3 (f 41= .pointer (some ⟨gk,10,none⟩))∧Fa l 4 (f 42= .pointer (some ⟨gk,10,none⟩))∧Fa l 5 (f 43= .slice T1.a0 d1.jobs.length T1.n0)∧Fa l 6 (f 44= .int .i64 x)∧Fa l 7 (f 45= .pointer (some ⟨gk,0,none⟩))∧Fa l 8 (f 46= .pointer (some ⟨gk,0,none⟩))∧Fa l 9 (f 47= .pointer (some ⟨gk,10,none⟩))∧Fa l 10 (f 48= .pointer (some ⟨gk,11,none⟩))∧Fa l 11 (f 49= .slice (some ⟨g,0,none⟩) d1.released.length T1.n1)∧Fa l 12 (f 50= .int .i64 x)∧Fa l 13 (f 51= .pointer (some ⟨g,x,none⟩))∧Fa l 14 (f 52= .int .i64 rl)∧Fa l 15 (f 53= .int .i64 R)∧Fa l 16 (Lst l 14∧f 54= .agg #[.int .i64 x,.int .i64 rl,.int .i64 R,.int .i64 0,.bool false,.bool false])∧Fa l 17 (Lst l 14∧f 55= .slice (some ⟨Wa.heap.size,0,none⟩) 1 1∧(¬ Lst l 18→W=Wa.drew.alloc (.cells #[.int .i64 x,.int .i64 rl,.int .i64 R,.int .i64 0,.bool false,.bool false] 74)))∧Fa l 18 (Lst l 17∧∃A cc,f 56= .slice A (d1.jobs.length+1) cc∧(¬ Lst l 22→ownsZ W 74 6 (.slice A (d1.jobs.length+1) cc) (d1.jobs.length+1) (d1.jobs.flatMap TJob.cells++[.int .i64 x,.int .i64 rl,.int .i64 R,.int .i64 0,.bool false,.bool false])∧(Wa.drew.alloc (.cells #[.int .i64 x,.int .i64 rl,.int .i64 R,.int .i64 0,.bool false,.bool false] 74)).grownBy W (rowZ (.slice T1.a0 d1.jobs.length T1.n0))∧(∀b,rowZ (.slice A (d1.jobs.length+1) cc)=some b→rowZ (.slice T1.a0 d1.jobs.length T1.n0)=some b∨b=(Wa.drew.alloc (.cells #[.int .i64 x,.int .i64 rl,.int .i64 R,.int .i64 0,.bool false,.bool false] 74)).heap.size)))∧Fa l 19 (f 57= .pointer (some ⟨gk,0,none⟩))∧Fa l 20 (f 58= .pointer (some ⟨gk,10,none⟩))∧Fa l 21 (f 59= .pointer (some ⟨gk,10,none⟩))∧Fa l 22 ((∀i,i < 19→Lst l i)∧∃G2 T2,Kp gk G2 B W c S m {d1 with jobs:=d1.jobs++[⟨x,rl,R,0,false,false⟩]} T2∧KEff gk B G1 G2 Wa.drew W∧T2.a1=T1.a1)) (by kernel_rfl) (by decide) (by kernel_rfl) (by kernel_rfl) (fun ⟨_,_,h⟩=>Exit.noConfusion (And.left (show Exit.outgrown=Exit.normal∧_ from h))) (by intro s hs;simp at hs⊢;omega) ?_ ?_ ?_
      ·intro l hz hl
       exact ⟨⟨hbx,fun _=>hbg,fun _=>rfl,hz⟩,.no (hl 0),.no (hl 1),.no (hl 2),.no (hl 3),.no (hl 4),.no (hl 5),.no (hl 6),.no (hl 7),.no (hl 8),.no (hl 9),.no (hl 10),.no (hl 11),.no (hl 12),.no (hl 13),.no (hl 14),.no (hl 15),.no (hl 16),.no (hl 17),.no (hl 18),.no (hl 19),.no (hl 20),.no (hl 21),.no (hl 22)⟩
      ·refine StepsL.c 1 [] (fun l f W hR hn hb K Q2 hK=>?_) ?_
       ·obtain ⟨hS,h0,h1,h2,h3,h4,h5,h6,h7,h8,h9,h10,h11,h12,h13,h14,h15,h16,h17,h18,h19,h20,h21,h22⟩:=hR
        replace hb:=zH hb
        refine ⟨?_⟩
        simp only [pfs] at hK⊢
        obtain ⟨cX,fX,zX⟩:=blk hS.1
        go_simp
        refine hK.out _ _ ⟨⟨hS.1,fun h=>hS.2.1 (fun h2=>h h2.fwd),fun h=>hS.2.2.1 (fun h2=>h h2.fwd),by simpa using hS.2.2.2⟩,⟨fun _=>rfl⟩,h1.k,h2.k,h3.k,h4.k,h5.k,h6.k,h7.k,h8.k,h9.k,h10.k,h11.k,h12.k,h13.k,h14.k,h15.k,h16.m,⟨fun hl=>⟨(h17.out hl.b).1.fwd,(h17.out hl.b).2.1,fun h=>(h17.out hl.b).2.2 (fun h2=>h h2.fwd)⟩⟩,⟨fun hl=>let ⟨A,cc,e,p⟩:=(h18.out hl.b).2;⟨(h18.out hl.b).1.fwd,A,cc,e,fun h=>p (fun h2=>h h2.fwd)⟩⟩,h19.k,h20.k,h21.k,⟨fun hl=>absurd ((h22.out hl.b).1 0 (by decide)) hn⟩⟩
       refine StepsL.c 2 [] (fun l f W hR hn hb K Q2 hK=>?_) ?_
       ·obtain ⟨hS,h0,h1,h2,h3,h4,h5,h6,h7,h8,h9,h10,h11,h12,h13,h14,h15,h16,h17,h18,h19,h20,h21,h22⟩:=hR
        replace hb:=zH hb
        refine ⟨?_⟩
        simp only [pfs] at hK⊢
        obtain ⟨cX,fX,zX⟩:=blk hS.1
        go_simp
        refine hK.out _ _ ⟨⟨hS.1,fun h=>hS.2.1 (fun h2=>h h2.fwd),fun h=>hS.2.2.1 (fun h2=>h h2.fwd),by simpa using hS.2.2.2⟩,h0.k,⟨fun _=>rfl⟩,h2.k,h3.k,h4.k,h5.k,h6.k,h7.k,h8.k,h9.k,h10.k,h11.k,h12.k,h13.k,h14.k,h15.k,h16.m,⟨fun hl=>⟨(h17.out hl.b).1.fwd,(h17.out hl.b).2.1,fun h=>(h17.out hl.b).2.2 (fun h2=>h h2.fwd)⟩⟩,⟨fun hl=>let ⟨A,cc,e,p⟩:=(h18.out hl.b).2;⟨(h18.out hl.b).1.fwd,A,cc,e,fun h=>p (fun h2=>h h2.fwd)⟩⟩,h19.k,h20.k,h21.k,⟨fun hl=>absurd ((h22.out hl.b).1 1 (by decide)) hn⟩⟩
       refine StepsL.c 3 [1] (fun l f W hR hn hb K Q2 hK=>?_) ?_
       ·obtain ⟨hS,h0,h1,h2,h3,h4,h5,h6,h7,h8,h9,h10,h11,h12,h13,h14,h15,h16,h17,h18,h19,h20,h21,h22⟩:=hR
        have q1:=h1.out (hb 1 (by simp))
        replace hb:=zH hb
        refine ⟨?_⟩
        simp only [pfs] at hK⊢
        (try simp only [q1] at hK)
        go_simp
        refine hK.out _ _ ⟨⟨hS.1,fun h=>hS.2.1 (fun h2=>h h2.fwd),fun h=>hS.2.2.1 (fun h2=>h h2.fwd),by simpa using hS.2.2.2⟩,h0.k,h1.k,⟨fun _=>rfl⟩,h3.k,h4.k,h5.k,h6.k,h7.k,h8.k,h9.k,h10.k,h11.k,h12.k,h13.k,h14.k,h15.k,h16.m,⟨fun hl=>⟨(h17.out hl.b).1.fwd,(h17.out hl.b).2.1,fun h=>(h17.out hl.b).2.2 (fun h2=>h h2.fwd)⟩⟩,⟨fun hl=>let ⟨A,cc,e,p⟩:=(h18.out hl.b).2;⟨(h18.out hl.b).1.fwd,A,cc,e,fun h=>p (fun h2=>h h2.fwd)⟩⟩,h19.k,h20.k,h21.k,⟨fun hl=>absurd ((h22.out hl.b).1 2 (by decide)) hn⟩⟩
       refine StepsL.c 4 [2] (fun l f W hR hn hb K Q2 hK=>?_) ?_
       ·obtain ⟨hS,h0,h1,h2,h3,h4,h5,h6,h7,h8,h9,h10,h11,h12,h13,h14,h15,h16,h17,h18,h19,h20,h21,h22⟩:=hR
        have q2:=h2.out (hb 2 (by simp))
        replace hb:=zH hb
        refine ⟨?_⟩
        simp only [pfs] at hK⊢
        (try simp only [q2] at hK)
        go_simp
        refine hK.out _ _ ⟨⟨hS.1,fun h=>hS.2.1 (fun h2=>h h2.fwd),fun h=>hS.2.2.1 (fun h2=>h h2.fwd),by simpa using hS.2.2.2⟩,h0.k,h1.k,h2.k,⟨fun _=>rfl⟩,h4.k,h5.k,h6.k,h7.k,h8.k,h9.k,h10.k,h11.k,h12.k,h13.k,h14.k,h15.k,h16.m,⟨fun hl=>⟨(h17.out hl.b).1.fwd,(h17.out hl.b).2.1,fun h=>(h17.out hl.b).2.2 (fun h2=>h h2.fwd)⟩⟩,⟨fun hl=>let ⟨A,cc,e,p⟩:=(h18.out hl.b).2;⟨(h18.out hl.b).1.fwd,A,cc,e,fun h=>p (fun h2=>h h2.fwd)⟩⟩,h19.k,h20.k,h21.k,⟨fun hl=>absurd ((h22.out hl.b).1 3 (by decide)) hn⟩⟩
       refine StepsL.c 5 [3] (fun l f W hR hn hb K Q2 hK=>?_) ?_
       ·obtain ⟨hS,h0,h1,h2,h3,h4,h5,h6,h7,h8,h9,h10,h11,h12,h13,h14,h15,h16,h17,h18,h19,h20,h21,h22⟩:=hR
        have q3:=h3.out (hb 3 (by simp))
        replace hb:=zH hb
        refine ⟨?_⟩
        simp only [pfs] at hK⊢
        (try simp only [q3] at hK)
        go_simp
        refine hK.out _ _ ⟨⟨hS.1,fun h=>hS.2.1 (fun h2=>h h2.fwd),fun h=>hS.2.2.1 (fun h2=>h h2.fwd),by simpa using hS.2.2.2⟩,h0.k,h1.k,h2.k,h3.k,⟨fun _=>rfl⟩,h5.k,h6.k,h7.k,h8.k,h9.k,h10.k,h11.k,h12.k,h13.k,h14.k,h15.k,h16.m,⟨fun hl=>⟨(h17.out hl.b).1.fwd,(h17.out hl.b).2.1,fun h=>(h17.out hl.b).2.2 (fun h2=>h h2.fwd)⟩⟩,⟨fun hl=>let ⟨A,cc,e,p⟩:=(h18.out hl.b).2;⟨(h18.out hl.b).1.fwd,A,cc,e,fun h=>p (fun h2=>h h2.fwd)⟩⟩,h19.k,h20.k,h21.k,⟨fun hl=>absurd ((h22.out hl.b).1 4 (by decide)) hn⟩⟩
       refine StepsL.c 6 [4] (fun l f W hR hn hb K Q2 hK=>?_) ?_
       ·obtain ⟨hS,h0,h1,h2,h3,h4,h5,h6,h7,h8,h9,h10,h11,h12,h13,h14,h15,h16,h17,h18,h19,h20,h21,h22⟩:=hR
        have q4:=h4.out (hb 4 (by simp))
        replace hb:=zH hb
        refine ⟨?_⟩
        simp only [pfs] at hK⊢
        (try simp only [q4] at hK)
        obtain ⟨cX,fX,zX⟩:=blk (hS.2.1 (fun h=>hn ((h22.out h).1 5 (by decide))))
        go_simp
        refine hK.out _ _ ⟨⟨hS.1,fun h=>hS.2.1 (fun h2=>h h2.fwd),fun h=>hS.2.2.1 (fun h2=>h h2.fwd),by simpa using hS.2.2.2⟩,h0.k,h1.k,h2.k,h3.k,h4.k,⟨fun _=>rfl⟩,h6.k,h7.k,h8.k,h9.k,h10.k,h11.k,h12.k,h13.k,h14.k,h15.k,h16.m,⟨fun hl=>⟨(h17.out hl.b).1.fwd,(h17.out hl.b).2.1,fun h=>(h17.out hl.b).2.2 (fun h2=>h h2.fwd)⟩⟩,⟨fun hl=>let ⟨A,cc,e,p⟩:=(h18.out hl.b).2;⟨(h18.out hl.b).1.fwd,A,cc,e,fun h=>p (fun h2=>h h2.fwd)⟩⟩,h19.k,h20.k,h21.k,⟨fun hl=>absurd ((h22.out hl.b).1 5 (by decide)) hn⟩⟩
       refine StepsL.c 7 [] (fun l f W hR hn hb K Q2 hK=>?_) ?_
       ·obtain ⟨hS,h0,h1,h2,h3,h4,h5,h6,h7,h8,h9,h10,h11,h12,h13,h14,h15,h16,h17,h18,h19,h20,h21,h22⟩:=hR
        replace hb:=zH hb
        refine ⟨?_⟩
        simp only [pfs] at hK⊢
        go_simp
        refine hK.out _ _ ⟨⟨hS.1,fun h=>hS.2.1 (fun h2=>h h2.fwd),fun h=>hS.2.2.1 (fun h2=>h h2.fwd),by simpa using hS.2.2.2⟩,h0.k,h1.k,h2.k,h3.k,h4.k,h5.k,⟨fun _=>rfl⟩,h7.k,h8.k,h9.k,h10.k,h11.k,h12.k,h13.k,h14.k,h15.k,h16.m,⟨fun hl=>⟨(h17.out hl.b).1.fwd,(h17.out hl.b).2.1,fun h=>(h17.out hl.b).2.2 (fun h2=>h h2.fwd)⟩⟩,⟨fun hl=>let ⟨A,cc,e,p⟩:=(h18.out hl.b).2;⟨(h18.out hl.b).1.fwd,A,cc,e,fun h=>p (fun h2=>h h2.fwd)⟩⟩,h19.k,h20.k,h21.k,⟨fun hl=>absurd ((h22.out hl.b).1 6 (by decide)) hn⟩⟩
       refine StepsL.c 8 [] (fun l f W hR hn hb K Q2 hK=>?_) ?_
       ·obtain ⟨hS,h0,h1,h2,h3,h4,h5,h6,h7,h8,h9,h10,h11,h12,h13,h14,h15,h16,h17,h18,h19,h20,h21,h22⟩:=hR
        replace hb:=zH hb
        refine ⟨?_⟩
        simp only [pfs] at hK⊢
        obtain ⟨cX,fX,zX⟩:=blk hS.1
        go_simp
        refine hK.out _ _ ⟨⟨hS.1,fun h=>hS.2.1 (fun h2=>h h2.fwd),fun h=>hS.2.2.1 (fun h2=>h h2.fwd),by simpa using hS.2.2.2⟩,h0.k,h1.k,h2.k,h3.k,h4.k,h5.k,h6.k,⟨fun _=>rfl⟩,h8.k,h9.k,h10.k,h11.k,h12.k,h13.k,h14.k,h15.k,h16.m,⟨fun hl=>⟨(h17.out hl.b).1.fwd,(h17.out hl.b).2.1,fun h=>(h17.out hl.b).2.2 (fun h2=>h h2.fwd)⟩⟩,⟨fun hl=>let ⟨A,cc,e,p⟩:=(h18.out hl.b).2;⟨(h18.out hl.b).1.fwd,A,cc,e,fun h=>p (fun h2=>h h2.fwd)⟩⟩,h19.k,h20.k,h21.k,⟨fun hl=>absurd ((h22.out hl.b).1 7 (by decide)) hn⟩⟩
       refine StepsL.c 9 [7] (fun l f W hR hn hb K Q2 hK=>?_) ?_
       ·obtain ⟨hS,h0,h1,h2,h3,h4,h5,h6,h7,h8,h9,h10,h11,h12,h13,h14,h15,h16,h17,h18,h19,h20,h21,h22⟩:=hR
        have q7:=h7.out (hb 7 (by simp))
        replace hb:=zH hb
        refine ⟨?_⟩
        simp only [pfs] at hK⊢
        (try simp only [q7] at hK)
        go_simp
        refine hK.out _ _ ⟨⟨hS.1,fun h=>hS.2.1 (fun h2=>h h2.fwd),fun h=>hS.2.2.1 (fun h2=>h h2.fwd),by simpa using hS.2.2.2⟩,h0.k,h1.k,h2.k,h3.k,h4.k,h5.k,h6.k,h7.k,⟨fun _=>rfl⟩,h9.k,h10.k,h11.k,h12.k,h13.k,h14.k,h15.k,h16.m,⟨fun hl=>⟨(h17.out hl.b).1.fwd,(h17.out hl.b).2.1,fun h=>(h17.out hl.b).2.2 (fun h2=>h h2.fwd)⟩⟩,⟨fun hl=>let ⟨A,cc,e,p⟩:=(h18.out hl.b).2;⟨(h18.out hl.b).1.fwd,A,cc,e,fun h=>p (fun h2=>h h2.fwd)⟩⟩,h19.k,h20.k,h21.k,⟨fun hl=>absurd ((h22.out hl.b).1 8 (by decide)) hn⟩⟩
       refine StepsL.c 10 [8] (fun l f W hR hn hb K Q2 hK=>?_) ?_
       ·obtain ⟨hS,h0,h1,h2,h3,h4,h5,h6,h7,h8,h9,h10,h11,h12,h13,h14,h15,h16,h17,h18,h19,h20,h21,h22⟩:=hR
        have q8:=h8.out (hb 8 (by simp))
        replace hb:=zH hb
        refine ⟨?_⟩
        simp only [pfs] at hK⊢
        (try simp only [q8] at hK)
        go_simp
        refine hK.out _ _ ⟨⟨hS.1,fun h=>hS.2.1 (fun h2=>h h2.fwd),fun h=>hS.2.2.1 (fun h2=>h h2.fwd),by simpa using hS.2.2.2⟩,h0.k,h1.k,h2.k,h3.k,h4.k,h5.k,h6.k,h7.k,h8.k,⟨fun _=>rfl⟩,h10.k,h11.k,h12.k,h13.k,h14.k,h15.k,h16.m,⟨fun hl=>⟨(h17.out hl.b).1.fwd,(h17.out hl.b).2.1,fun h=>(h17.out hl.b).2.2 (fun h2=>h h2.fwd)⟩⟩,⟨fun hl=>let ⟨A,cc,e,p⟩:=(h18.out hl.b).2;⟨(h18.out hl.b).1.fwd,A,cc,e,fun h=>p (fun h2=>h h2.fwd)⟩⟩,h19.k,h20.k,h21.k,⟨fun hl=>absurd ((h22.out hl.b).1 9 (by decide)) hn⟩⟩
       refine StepsL.c 11 [9] (fun l f W hR hn hb K Q2 hK=>?_) ?_
       ·obtain ⟨hS,h0,h1,h2,h3,h4,h5,h6,h7,h8,h9,h10,h11,h12,h13,h14,h15,h16,h17,h18,h19,h20,h21,h22⟩:=hR
        have q9:=h9.out (hb 9 (by simp))
        replace hb:=zH hb
        refine ⟨?_⟩
        simp only [pfs] at hK⊢
        (try simp only [q9] at hK)
        go_simp
        refine hK.out _ _ ⟨⟨hS.1,fun h=>hS.2.1 (fun h2=>h h2.fwd),fun h=>hS.2.2.1 (fun h2=>h h2.fwd),by simpa using hS.2.2.2⟩,h0.k,h1.k,h2.k,h3.k,h4.k,h5.k,h6.k,h7.k,h8.k,h9.k,⟨fun _=>rfl⟩,h11.k,h12.k,h13.k,h14.k,h15.k,h16.m,⟨fun hl=>⟨(h17.out hl.b).1.fwd,(h17.out hl.b).2.1,fun h=>(h17.out hl.b).2.2 (fun h2=>h h2.fwd)⟩⟩,⟨fun hl=>let ⟨A,cc,e,p⟩:=(h18.out hl.b).2;⟨(h18.out hl.b).1.fwd,A,cc,e,fun h=>p (fun h2=>h h2.fwd)⟩⟩,h19.k,h20.k,h21.k,⟨fun hl=>absurd ((h22.out hl.b).1 10 (by decide)) hn⟩⟩
       refine StepsL.c 12 [10] (fun l f W hR hn hb K Q2 hK=>?_) ?_
       ·obtain ⟨hS,h0,h1,h2,h3,h4,h5,h6,h7,h8,h9,h10,h11,h12,h13,h14,h15,h16,h17,h18,h19,h20,h21,h22⟩:=hR
        have q10:=h10.out (hb 10 (by simp))
        replace hb:=zH hb
        refine ⟨?_⟩
        simp only [pfs] at hK⊢
        (try simp only [q10] at hK)
        obtain ⟨cX,fX,zX⟩:=blk (hS.2.1 (fun h=>hn ((h22.out h).1 11 (by decide))))
        go_simp
        refine hK.out _ _ ⟨⟨hS.1,fun h=>hS.2.1 (fun h2=>h h2.fwd),fun h=>hS.2.2.1 (fun h2=>h h2.fwd),by simpa using hS.2.2.2⟩,h0.k,h1.k,h2.k,h3.k,h4.k,h5.k,h6.k,h7.k,h8.k,h9.k,h10.k,⟨fun _=>rfl⟩,h12.k,h13.k,h14.k,h15.k,h16.m,⟨fun hl=>⟨(h17.out hl.b).1.fwd,(h17.out hl.b).2.1,fun h=>(h17.out hl.b).2.2 (fun h2=>h h2.fwd)⟩⟩,⟨fun hl=>let ⟨A,cc,e,p⟩:=(h18.out hl.b).2;⟨(h18.out hl.b).1.fwd,A,cc,e,fun h=>p (fun h2=>h h2.fwd)⟩⟩,h19.k,h20.k,h21.k,⟨fun hl=>absurd ((h22.out hl.b).1 11 (by decide)) hn⟩⟩
       refine StepsL.c 13 [] (fun l f W hR hn hb K Q2 hK=>?_) ?_
       ·obtain ⟨hS,h0,h1,h2,h3,h4,h5,h6,h7,h8,h9,h10,h11,h12,h13,h14,h15,h16,h17,h18,h19,h20,h21,h22⟩:=hR
        replace hb:=zH hb
        refine ⟨?_⟩
        simp only [pfs] at hK⊢
        go_simp
        refine hK.out _ _ ⟨⟨hS.1,fun h=>hS.2.1 (fun h2=>h h2.fwd),fun h=>hS.2.2.1 (fun h2=>h h2.fwd),by simpa using hS.2.2.2⟩,h0.k,h1.k,h2.k,h3.k,h4.k,h5.k,h6.k,h7.k,h8.k,h9.k,h10.k,h11.k,⟨fun _=>rfl⟩,h13.k,h14.k,h15.k,h16.m,⟨fun hl=>⟨(h17.out hl.b).1.fwd,(h17.out hl.b).2.1,fun h=>(h17.out hl.b).2.2 (fun h2=>h h2.fwd)⟩⟩,⟨fun hl=>let ⟨A,cc,e,p⟩:=(h18.out hl.b).2;⟨(h18.out hl.b).1.fwd,A,cc,e,fun h=>p (fun h2=>h h2.fwd)⟩⟩,h19.k,h20.k,h21.k,⟨fun hl=>absurd ((h22.out hl.b).1 12 (by decide)) hn⟩⟩
       refine StepsL.c 14 [11,12] (fun l f W hR hn hb K Q2 hK=>?_) ?_
       ·obtain ⟨hS,h0,h1,h2,h3,h4,h5,h6,h7,h8,h9,h10,h11,h12,h13,h14,h15,h16,h17,h18,h19,h20,h21,h22⟩:=hR
        have q11:=h11.out (hb 11 (by simp))
        have q12:=h12.out (hb 12 (by simp))
        replace hb:=zH hb
        refine ⟨?_⟩
        simp only [pfs] at hK⊢
        (try simp only [q11,q12] at hK)
        go_simp
        refine hK.out _ _ ⟨⟨hS.1,fun h=>hS.2.1 (fun h2=>h h2.fwd),fun h=>hS.2.2.1 (fun h2=>h h2.fwd),by simpa using hS.2.2.2⟩,h0.k,h1.k,h2.k,h3.k,h4.k,h5.k,h6.k,h7.k,h8.k,h9.k,h10.k,h11.k,h12.k,⟨fun _=>rfl⟩,h14.k,h15.k,h16.m,⟨fun hl=>⟨(h17.out hl.b).1.fwd,(h17.out hl.b).2.1,fun h=>(h17.out hl.b).2.2 (fun h2=>h h2.fwd)⟩⟩,⟨fun hl=>let ⟨A,cc,e,p⟩:=(h18.out hl.b).2;⟨(h18.out hl.b).1.fwd,A,cc,e,fun h=>p (fun h2=>h h2.fwd)⟩⟩,h19.k,h20.k,h21.k,⟨fun hl=>absurd ((h22.out hl.b).1 13 (by decide)) hn⟩⟩
       refine StepsL.c 15 [13] (fun l f W hR hn hb K Q2 hK=>?_) ?_
       ·obtain ⟨hS,h0,h1,h2,h3,h4,h5,h6,h7,h8,h9,h10,h11,h12,h13,h14,h15,h16,h17,h18,h19,h20,h21,h22⟩:=hR
        have q13:=h13.out (hb 13 (by simp))
        replace hb:=zH hb
        refine ⟨?_⟩
        simp only [pfs] at hK⊢
        (try simp only [q13] at hK)
        obtain rfl:=hS.2.2.1 (fun h=>hn (h17.out h).1)
        have cr2:=hcr
        go_simp
        refine hK.out _ _ ⟨⟨hS.1,fun h=>hS.2.1 (fun h2=>h h2.fwd),fun h=>hS.2.2.1 (fun h2=>h h2.fwd),by simpa using hS.2.2.2⟩,h0.k,h1.k,h2.k,h3.k,h4.k,h5.k,h6.k,h7.k,h8.k,h9.k,h10.k,h11.k,h12.k,h13.k,⟨fun _=>rfl⟩,h15.k,h16.m,⟨fun hl=>⟨(h17.out hl.b).1.fwd,(h17.out hl.b).2.1,fun h=>(h17.out hl.b).2.2 (fun h2=>h h2.fwd)⟩⟩,⟨fun hl=>let ⟨A,cc,e,p⟩:=(h18.out hl.b).2;⟨(h18.out hl.b).1.fwd,A,cc,e,fun h=>p (fun h2=>h h2.fwd)⟩⟩,h19.k,h20.k,h21.k,⟨fun hl=>absurd ((h22.out hl.b).1 14 (by decide)) hn⟩⟩
       refine StepsL.c 16 [] (fun l f W hR hn hb K Q2 hK=>?_) ?_
       ·obtain ⟨hS,h0,h1,h2,h3,h4,h5,h6,h7,h8,h9,h10,h11,h12,h13,h14,h15,h16,h17,h18,h19,h20,h21,h22⟩:=hR
        replace hb:=zH hb
        refine ⟨?_⟩
        simp only [pfs] at hK⊢
        go_simp
        refine hK.out _ _ ⟨⟨hS.1,fun h=>hS.2.1 (fun h2=>h h2.fwd),fun h=>hS.2.2.1 (fun h2=>h h2.fwd),by simpa using hS.2.2.2⟩,h0.k,h1.k,h2.k,h3.k,h4.k,h5.k,h6.k,h7.k,h8.k,h9.k,h10.k,h11.k,h12.k,h13.k,h14.k,⟨fun _=>rfl⟩,h16.m,⟨fun hl=>⟨(h17.out hl.b).1.fwd,(h17.out hl.b).2.1,fun h=>(h17.out hl.b).2.2 (fun h2=>h h2.fwd)⟩⟩,⟨fun hl=>let ⟨A,cc,e,p⟩:=(h18.out hl.b).2;⟨(h18.out hl.b).1.fwd,A,cc,e,fun h=>p (fun h2=>h h2.fwd)⟩⟩,h19.k,h20.k,h21.k,⟨fun hl=>absurd ((h22.out hl.b).1 15 (by decide)) hn⟩⟩
       refine StepsL.c 17 [6,14,15] (fun l f W hR hn hb K Q2 hK=>?_) ?_
       ·obtain ⟨hS,h0,h1,h2,h3,h4,h5,h6,h7,h8,h9,h10,h11,h12,h13,h14,h15,h16,h17,h18,h19,h20,h21,h22⟩:=hR
        have q6:=h6.out (hb 6 (by simp))
        have q14:=h14.out (hb 14 (by simp))
        have q15:=h15.out (hb 15 (by simp))
        have hb14:=hb 14 (by simp)
        have L14:=hb14
        replace hb:=zH hb
        refine ⟨?_⟩
        simp only [pfs] at hK⊢
        (try simp only [q6,q14,q15] at hK)
        go_simp
        refine hK.out _ _ ⟨⟨hS.1,fun h=>hS.2.1 (fun h2=>h h2.fwd),fun h=>hS.2.2.1 (fun h2=>h h2.fwd),by simpa using hS.2.2.2⟩,h0.k,h1.k,h2.k,h3.k,h4.k,h5.k,h6.k,h7.k,h8.k,h9.k,h10.k,h11.k,h12.k,h13.k,h14.k,h15.k,⟨fun _=>⟨L14.fwd,rfl⟩⟩,⟨fun hl=>⟨(h17.out hl.b).1.fwd,(h17.out hl.b).2.1,fun h=>(h17.out hl.b).2.2 (fun h2=>h h2.fwd)⟩⟩,⟨fun hl=>let ⟨A,cc,e,p⟩:=(h18.out hl.b).2;⟨(h18.out hl.b).1.fwd,A,cc,e,fun h=>p (fun h2=>h h2.fwd)⟩⟩,h19.k,h20.k,h21.k,⟨fun hl=>absurd ((h22.out hl.b).1 16 (by decide)) hn⟩⟩
       refine StepsL.c 18 [16] (fun l f W hR hn hb K Q2 hK=>?_) ?_
       ·obtain ⟨hS,h0,h1,h2,h3,h4,h5,h6,h7,h8,h9,h10,h11,h12,h13,h14,h15,h16,h17,h18,h19,h20,h21,h22⟩:=hR
        have q16:=h16.out (hb 16 (by simp))
        have L14:=q16.1
        have e16:=q16.2
        replace hb:=zH hb
        refine ⟨?_⟩
        simp only [pfs] at hK⊢
        (try simp only [e16] at hK)
        obtain rfl:=hS.2.2.1 hn
        go_simp
        refine hK.out _ _ ⟨⟨(heap_alloc_old _ _ (blk hS.1).2.2).trans hS.1,fun h=>(heap_alloc_old _ _ (blk (hS.2.1 fun h2=>h h2.fwd)).2.2).trans (hS.2.1 fun h2=>h h2.fwd),fun h=>absurd (Lst.self (by rw [hS.2.2.2];omega)) h,by simpa using hS.2.2.2⟩,h0.k,h1.k,h2.k,h3.k,h4.k,h5.k,h6.k,h7.k,h8.k,h9.k,h10.k,h11.k,h12.k,h13.k,h14.k,h15.k,h16.m,⟨fun _=>⟨L14.fwd,rfl,fun _=>rfl⟩⟩,⟨fun hl=>absurd (h18.out hl.b).1 hn⟩,h19.k,h20.k,h21.k,⟨fun hl=>absurd ((h22.out hl.b).1 17 (by decide)) hn⟩⟩
       refine StepsL.c 19 [5,17] (fun l f W hR hn hb K Q2 hK=>?_) ?_
       ·obtain ⟨hS,h0,h1,h2,h3,h4,h5,h6,h7,h8,h9,h10,h11,h12,h13,h14,h15,h16,h17,h18,h19,h20,h21,h22⟩:=hR
        have q5:=h5.out (hb 5 (by simp))
        have q17:=h17.out (hb 17 (by simp))
        have hb17:=hb 17 (by simp)
        have L17:=hb17
        obtain ⟨_,e17,p17⟩:=q17
        obtain rfl:=p17 hn
        replace hb:=zH hb
        refine ⟨?_⟩
        simp only [pfs] at hK⊢
        (try simp only [q5,e17] at hK)
        simp only [q5,e17]
        refine wp_appZ (.tmp 43) (.tmp 55) _ rfl tyJob (.slice T1.a0 d1.jobs.length T1.n0) d1.jobs.length (d1.jobs.flatMap TJob.cells) (by rfl) (ownZ_keep hownJ.out (fun b hb=>heap_alloc_old _ _ (ownZ_lt hownJ.out b hb))) (some ⟨Wa.heap.size,0,none⟩) 1 1 [.int .i64 x,.int .i64 rl,.int .i64 R,.int .i64 0,.bool false,.bool false] (by rfl) byR hone (by unfold maxLen;omega) (by omega) (fun A3 c3 w3 own3 gr3 at3=>?_)
        simp only [Act.put,List.setIfInBounds_toArray,List.set_cons_zero,List.set_cons_succ]
        refine hK.out _ _ ⟨⟨(gr3.block _ (blk hS.1).2.2 (fun e=>hnw.out.1 (hrow.out _ e.symm))).trans hS.1,fun h=>(gr3.block _ (blk (hS.2.1 fun h2=>h h2.fwd)).2.2 (fun e=>hnw.out.2 (hrow.out _ e.symm))).trans (hS.2.1 fun h2=>h h2.fwd),fun h=>absurd L17.fwd h,by simpa using hS.2.2.2⟩,h0.k,h1.k,h2.k,h3.k,h4.k,h5.k,h6.k,h7.k,h8.k,h9.k,h10.k,h11.k,h12.k,h13.k,h14.k,h15.k,h16.m,⟨fun hl=>⟨(h17.out hl.b).1.fwd,(h17.out hl.b).2.1,fun h=>absurd (Lst.self (by rw [hS.2.2.2];omega)) h⟩⟩,⟨fun _=>⟨L17.fwd,A3,c3,rfl,fun _=>⟨own3,gr3,at3⟩⟩⟩,h19.k,h20.k,h21.k,⟨fun hl=>absurd ((h22.out hl.b).1 18 (by decide)) hn⟩⟩
       refine StepsL.c 20 [0,0,1,2,3,4,5,6,7,8,9,10,11,12,13,14,15,16,17,18] (fun l f W hR hn hb K Q2 hK=>?_) ?_
       ·obtain ⟨hS,h0,h1,h2,h3,h4,h5,h6,h7,h8,h9,h10,h11,h12,h13,h14,h15,h16,h17,h18,h19,h20,h21,h22⟩:=hR
        have q0:=h0.out (hb 0 (by simp))
        have q1:=h1.out (hb 1 (by simp))
        have q2:=h2.out (hb 2 (by simp))
        have q3:=h3.out (hb 3 (by simp))
        have q4:=h4.out (hb 4 (by simp))
        have q5:=h5.out (hb 5 (by simp))
        have q6:=h6.out (hb 6 (by simp))
        have q7:=h7.out (hb 7 (by simp))
        have q8:=h8.out (hb 8 (by simp))
        have q9:=h9.out (hb 9 (by simp))
        have q10:=h10.out (hb 10 (by simp))
        have q11:=h11.out (hb 11 (by simp))
        have q12:=h12.out (hb 12 (by simp))
        have q13:=h13.out (hb 13 (by simp))
        have q14:=h14.out (hb 14 (by simp))
        have q15:=h15.out (hb 15 (by simp))
        have q16:=h16.out (hb 16 (by simp))
        have q17:=h17.out (hb 17 (by simp))
        have q18:=h18.out (hb 18 (by simp))
        have e16:=q16.2
        have e17:=q17.2.1
        obtain ⟨L17,A0,cc0,e18,p18⟩:=q18
        replace hb:=zH hb
        refine ⟨?_⟩
        simp only [pfs] at hK⊢
        (try simp only [q0,q1,q2,q3,q4,q5,q6,q7,q8,q9,q10,q11,q12,q13,q14,q15,e16,e17,e18] at hK)
        go_simp
        refine hK.out _ _ ⟨⟨hS.1,fun h=>hS.2.1 (fun h2=>h h2.fwd),fun h=>hS.2.2.1 (fun h2=>h h2.fwd),by simpa using hS.2.2.2⟩,h0.k,h1.k,h2.k,h3.k,h4.k,h5.k,h6.k,h7.k,h8.k,h9.k,h10.k,h11.k,h12.k,h13.k,h14.k,h15.k,h16.m,⟨fun hl=>⟨(h17.out hl.b).1.fwd,(h17.out hl.b).2.1,fun h=>(h17.out hl.b).2.2 (fun h2=>h h2.fwd)⟩⟩,⟨fun hl=>let ⟨A,cc,e,p⟩:=(h18.out hl.b).2;⟨(h18.out hl.b).1.fwd,A,cc,e,fun h=>p (fun h2=>h h2.fwd)⟩⟩,⟨fun _=>rfl⟩,h20.k,h21.k,⟨fun hl=>⟨fun i hi=>((h22.out hl.b).1 i hi).fwd,(h22.out hl.b).2⟩⟩⟩
       refine StepsL.c 21 [19,0,1,2,3,4,5,6,7,8,9,10,11,12,13,14,15,16,17,18] (fun l f W hR hn hb K Q2 hK=>?_) ?_
       ·obtain ⟨hS,h0,h1,h2,h3,h4,h5,h6,h7,h8,h9,h10,h11,h12,h13,h14,h15,h16,h17,h18,h19,h20,h21,h22⟩:=hR
        have q0:=h0.out (hb 0 (by simp))
        have q1:=h1.out (hb 1 (by simp))
        have q2:=h2.out (hb 2 (by simp))
        have q3:=h3.out (hb 3 (by simp))
        have q4:=h4.out (hb 4 (by simp))
        have q5:=h5.out (hb 5 (by simp))
        have q6:=h6.out (hb 6 (by simp))
        have q7:=h7.out (hb 7 (by simp))
        have q8:=h8.out (hb 8 (by simp))
        have q9:=h9.out (hb 9 (by simp))
        have q10:=h10.out (hb 10 (by simp))
        have q11:=h11.out (hb 11 (by simp))
        have q12:=h12.out (hb 12 (by simp))
        have q13:=h13.out (hb 13 (by simp))
        have q14:=h14.out (hb 14 (by simp))
        have q15:=h15.out (hb 15 (by simp))
        have q16:=h16.out (hb 16 (by simp))
        have q17:=h17.out (hb 17 (by simp))
        have q18:=h18.out (hb 18 (by simp))
        have q19:=h19.out (hb 19 (by simp))
        have e16:=q16.2
        have e17:=q17.2.1
        obtain ⟨L17,A0,cc0,e18,p18⟩:=q18
        replace hb:=zH hb
        refine ⟨?_⟩
        simp only [pfs] at hK⊢
        (try simp only [q0,q1,q2,q3,q4,q5,q6,q7,q8,q9,q10,q11,q12,q13,q14,q15,q19,e16,e17,e18] at hK)
        go_simp
        refine hK.out _ _ ⟨⟨hS.1,fun h=>hS.2.1 (fun h2=>h h2.fwd),fun h=>hS.2.2.1 (fun h2=>h h2.fwd),by simpa using hS.2.2.2⟩,h0.k,h1.k,h2.k,h3.k,h4.k,h5.k,h6.k,h7.k,h8.k,h9.k,h10.k,h11.k,h12.k,h13.k,h14.k,h15.k,h16.m,⟨fun hl=>⟨(h17.out hl.b).1.fwd,(h17.out hl.b).2.1,fun h=>(h17.out hl.b).2.2 (fun h2=>h h2.fwd)⟩⟩,⟨fun hl=>let ⟨A,cc,e,p⟩:=(h18.out hl.b).2;⟨(h18.out hl.b).1.fwd,A,cc,e,fun h=>p (fun h2=>h h2.fwd)⟩⟩,h19.k,⟨fun _=>rfl⟩,h21.k,⟨fun hl=>⟨fun i hi=>((h22.out hl.b).1 i hi).fwd,(h22.out hl.b).2⟩⟩⟩
       refine StepsL.c 22 [20,0,1,2,3,4,5,6,7,8,9,10,11,12,13,14,15,16,17,18] (fun l f W hR hn hb K Q2 hK=>?_) ?_
       ·obtain ⟨hS,h0,h1,h2,h3,h4,h5,h6,h7,h8,h9,h10,h11,h12,h13,h14,h15,h16,h17,h18,h19,h20,h21,h22⟩:=hR
        have q0:=h0.out (hb 0 (by simp))
        have q1:=h1.out (hb 1 (by simp))
        have q2:=h2.out (hb 2 (by simp))
        have q3:=h3.out (hb 3 (by simp))
        have q4:=h4.out (hb 4 (by simp))
        have q5:=h5.out (hb 5 (by simp))
        have q6:=h6.out (hb 6 (by simp))
        have q7:=h7.out (hb 7 (by simp))
        have q8:=h8.out (hb 8 (by simp))
        have q9:=h9.out (hb 9 (by simp))
        have q10:=h10.out (hb 10 (by simp))
        have q11:=h11.out (hb 11 (by simp))
        have q12:=h12.out (hb 12 (by simp))
        have q13:=h13.out (hb 13 (by simp))
        have q14:=h14.out (hb 14 (by simp))
        have q15:=h15.out (hb 15 (by simp))
        have q16:=h16.out (hb 16 (by simp))
        have q17:=h17.out (hb 17 (by simp))
        have q18:=h18.out (hb 18 (by simp))
        have q20:=h20.out (hb 20 (by simp))
        have e16:=q16.2
        have e17:=q17.2.1
        obtain ⟨L17,A0,cc0,e18,p18⟩:=q18
        replace hb:=zH hb
        refine ⟨?_⟩
        simp only [pfs] at hK⊢
        (try simp only [q0,q1,q2,q3,q4,q5,q6,q7,q8,q9,q10,q11,q12,q13,q14,q15,q20,e16,e17,e18] at hK)
        go_simp
        refine hK.out _ _ ⟨⟨hS.1,fun h=>hS.2.1 (fun h2=>h h2.fwd),fun h=>hS.2.2.1 (fun h2=>h h2.fwd),by simpa using hS.2.2.2⟩,h0.k,h1.k,h2.k,h3.k,h4.k,h5.k,h6.k,h7.k,h8.k,h9.k,h10.k,h11.k,h12.k,h13.k,h14.k,h15.k,h16.m,⟨fun hl=>⟨(h17.out hl.b).1.fwd,(h17.out hl.b).2.1,fun h=>(h17.out hl.b).2.2 (fun h2=>h h2.fwd)⟩⟩,⟨fun hl=>let ⟨A,cc,e,p⟩:=(h18.out hl.b).2;⟨(h18.out hl.b).1.fwd,A,cc,e,fun h=>p (fun h2=>h h2.fwd)⟩⟩,h19.k,h20.k,⟨fun _=>rfl⟩,⟨fun hl=>⟨fun i hi=>((h22.out hl.b).1 i hi).fwd,(h22.out hl.b).2⟩⟩⟩
       refine StepsL.c 23 [21,18,18,0,1,2,3,4,5,6,7,8,9,10,11,12,13,14,15,16,17,18] (fun l f W hR hn hb K Q2 hK=>?_) ?_
       ·obtain ⟨hS,h0,h1,h2,h3,h4,h5,h6,h7,h8,h9,h10,h11,h12,h13,h14,h15,h16,h17,h18,h19,h20,h21,h22⟩:=hR
        have q0:=h0.out (hb 0 (by simp))
        have q1:=h1.out (hb 1 (by simp))
        have q2:=h2.out (hb 2 (by simp))
        have q3:=h3.out (hb 3 (by simp))
        have q4:=h4.out (hb 4 (by simp))
        have q5:=h5.out (hb 5 (by simp))
        have q6:=h6.out (hb 6 (by simp))
        have q7:=h7.out (hb 7 (by simp))
        have q8:=h8.out (hb 8 (by simp))
        have q9:=h9.out (hb 9 (by simp))
        have q10:=h10.out (hb 10 (by simp))
        have q11:=h11.out (hb 11 (by simp))
        have q12:=h12.out (hb 12 (by simp))
        have q13:=h13.out (hb 13 (by simp))
        have q14:=h14.out (hb 14 (by simp))
        have q15:=h15.out (hb 15 (by simp))
        have q16:=h16.out (hb 16 (by simp))
        have q17:=h17.out (hb 17 (by simp))
        have q18:=h18.out (hb 18 (by simp))
        have q21:=h21.out (hb 21 (by simp))
        have hb1:=hb 1 (by simp)
        have hb18:=hb 18 (by simp)
        have e16:=q16.2
        have e17:=q17.2.1
        have L18:=hb18
        obtain ⟨L17,A,cc,e18,p18⟩:=q18
        obtain ⟨own,gr,at3⟩:=p18 hn
        replace hb:=zH hb
        refine ⟨?_⟩
        simp only [pfs] at hK⊢
        (try simp only [q0,q1,q2,q3,q4,q5,q6,q7,q8,q9,q10,q11,q12,q13,q14,q15,q21,e16,e17,e18] at hK)
        obtain ⟨cX,fX,zX⟩:=blk (hS.2.1 hn)
        go_simp
        refine hK.out undef _ ⟨⟨(heap_set_far hS.1 (by simp;omega)),fun h=>absurd (Lst.self (by rw [hS.2.2.2];omega)) h,fun h=>absurd L17.fwd h,by simpa using hS.2.2.2⟩,h0.k,h1.k,h2.k,h3.k,h4.k,h5.k,h6.k,h7.k,h8.k,h9.k,h10.k,h11.k,h12.k,h13.k,h14.k,h15.k,h16.m,⟨fun hl=>⟨(h17.out hl.b).1.fwd,(h17.out hl.b).2.1,fun h=>absurd L18.fwd h⟩⟩,⟨fun hl=>let ⟨A,cc,e,p⟩:=(h18.out hl.b).2;⟨(h18.out hl.b).1.fwd,A,cc,e,fun h=>absurd (Lst.self (by rw [hS.2.2.2];omega)) h⟩⟩,h19.k,h20.k,h21.k,⟨fun _=>⟨fun i hi=>(hb.out i (by simp;omega)).fwd,_,_,(HJ.out own gr at3).1,(HJ.out own gr at3).2,rfl⟩⟩⟩
       exact StepsL.nil
      ·intro l f W hR hall
       obtain ⟨hS,h0,h1,h2,h3,h4,h5,h6,h7,h8,h9,h10,h11,h12,h13,h14,h15,h16,h17,h18,h19,h20,h21,h22⟩:=hR
       have q0:=h0.out (hall 0 (by decide))
       have q1:=h1.out (hall 1 (by decide))
       have q2:=h2.out (hall 2 (by decide))
       have q3:=h3.out (hall 3 (by decide))
       have q4:=h4.out (hall 4 (by decide))
       have q5:=h5.out (hall 5 (by decide))
       have q6:=h6.out (hall 6 (by decide))
       have q7:=h7.out (hall 7 (by decide))
       have q8:=h8.out (hall 8 (by decide))
       have q9:=h9.out (hall 9 (by decide))
       have q10:=h10.out (hall 10 (by decide))
       have q11:=h11.out (hall 11 (by decide))
       have q12:=h12.out (hall 12 (by decide))
       have q13:=h13.out (hall 13 (by decide))
       have q14:=h14.out (hall 14 (by decide))
       have q15:=h15.out (hall 15 (by decide))
       have q16:=h16.out (hall 16 (by decide))
       have q17:=h17.out (hall 17 (by decide))
       have q18:=h18.out (hall 18 (by decide))
       have q19:=h19.out (hall 19 (by decide))
       have q20:=h20.out (hall 20 (by decide))
       have q21:=h21.out (hall 21 (by decide))
       have q22:=h22.out (hall 22 (by decide))
       clear h0 h1 h2 h3 h4 h5 h6 h7 h8 h9 h10 h11 h12 h13 h14 h15 h16 h17 h18 h19 h20 h21 h22
       obtain ⟨_,G2,T2,hK2,hE2,ha2⟩:=q22
       simp only [pfs]
       clear q0 q1 q2 q3 q4 q5 q6 q7 q8 q9 q10 q11 q12 q13 q14 q15 q16 q17 q18 q19 q20 q21 hall hS
       have hnG2:∀b,(∀i,¬ G1 i b)→b < Wa.heap.size→∀i,¬ G2 i b:=fun b h1 h2 i h=>by
        rcases hE2.grow i b h with h3|h3
        ·exact h1 i h3
        ·have:Wa.drew.heap.size=Wa.heap.size:=rfl
         omega
       have hs2:Wa.heap.size≤W.heap.size:=hE2.below.size
       obtain ⟨g2,eg2,hGg2,hgl2,hcr2,hfr2,_⟩:=kp_rel hK2 (i:=x) hxr
       obtain rfl:g=g2:=come_row (ha2.trans heg.out) eg2
       have hb2:=hK2.blk
       rw [eg2] at hb2
       have hbx2:W.heap[w.heap.size]?=some (.cells #[.pointer (some ⟨gk,0,none⟩)] 134):=(hE2.keep _ (blk hbx).2.2 (by omega) hnw0.out).trans hbx
       have heg2:=zH eg2
       clear eg2
       dsimp only at hb2 hcr2
       rw [hL.out] at hcr2
       obtain ⟨cX,fX,zX⟩:=blk hbx2
       obtain ⟨cY,fY,zY⟩:=blk hb2
       have HT:=zH (keeperTell gk G2 B W.drew c S m _ T2 (hK2.drewN 1) R 2 x rl (by have:=hgo.out.2.2.2.2.2.1.ev;dsimp only;omega))
       replace hb2:=zH hb2
       gi_wp2_with fail
       (refine wpR_region_still_tail 11 (by kernel_rfl) (by kernel_rfl) (fun ⟨_,_,h⟩=>Exit.noConfusion (And.left (show Exit.outgrown=Exit.normal∧_ from h))) (by kernel_rfl) ?_;simp only [List.take_succ_cons,List.take_zero,List.drop_succ_cons,List.drop_zero];(iterate 11 (with_reducible refine wpStill_step (fun K hK=>?_);replace hK:=zH hK;go_simp;with_reducible refine hK.out _ ?_;clear hK K));refine wpStill_nil ?_)
       change wpList _ _ _ _ _ W.drew
       go_wp2_with (go_at_call 82;refine HT.out.mono ?_;rintro e w3 ⟨A5,n5,rfl,hK3,hE3⟩;obtain ⟨g3,eg3,hGg3,hgl3,hcr3,hfr3,hset3⟩:=kp_rel hK3 (i:=x) hxr;obtain rfl:g=g3:=come_row heg2.out eg3;have hb3:=hK3.blk;rw [eg3] at hb3;(try dsimp only at hb3);(try dsimp only at hcr3);rw [hL.out] at hcr3;clear eg3;replace hset3:=zH hset3;replace hE3:=zH hE3;have hbx3:w3.heap[w.heap.size]?=some (.cells #[.pointer (some ⟨gk,0,none⟩)] 134):=(hE3.out.keep _ (show w.heap.size < W.heap.size by omega) (by omega) (hnG2 _ hnw0.out (by have:=(blk hbx).2.2;omega))).trans hbx2;obtain ⟨cX3,fX3,zX3⟩:=blk hbx3;obtain ⟨cY3,fY3,zY3⟩:=blk hb3;clear cX fX zX cY fY zY)
       gi_wp2_with fail
       have hcan:relCan c x now d1=true:=by rw [relCan_iff,hR.out,hL.out];omega
       have hst:relStep c x d1= {d1 with jobs:=d1.jobs++[⟨x,rl,R,0,false,false⟩],events:=d1.events++[⟨R,2,x,rl⟩],released:=d1.released.set x (rl+1)} :=by
        unfold relStep;rw [if_pos hjl,hR.out,hL.out]
       obtain ⟨_,hK1,hE1,hG1,ha1,hC1,htgt,hn1⟩:=hgo.out
       refine come_on (T3:= {T2 with a5:=A5,n5:=n5}) hc hnow.2 hx hxm hn1 htgt hC1 hout.out.1 hsw hE1 hG1 hcan (by rw [hst];exact (hset3.out (rl+1)).1) ?_ (ha2.trans ha1)
       have hwa:KEff gk B G1 G1 wr Wa.drew:=KEff.ext (by have h1:=hC1.lo;have h2:=hC1.gk_lt;have h3:=hC1.size;omega) (by rw [← hWa.out];exact (below_drewN (Below.refl _ _) _).drew)
       exact ((hwa.trans hE2).trans (KEff.ext (by have h1:=hC1.lo;have h2:=hC1.gk_lt;have h3:=hCa.out.size;omega) (Below.refl _ _).drew)).trans (hE3.out.trans (hset3.out (rl+1)).2)
     ·have hcan:relCan c x now d1=true:=by rw [relCan_iff,hR.out,hL.out];omega
      have hst:relStep c x d1= {d1 with released:=d1.released.set x (rl+1)} :=by
       unfold relStep;rw [if_neg (by omega),hL.out]
      obtain ⟨hset,hK1,hE1,hG1,ha1,hC1,htgt,hn1⟩:=hgo.out
      obtain ⟨g2,eg2,_,_,_,_,hset2⟩:=kp_rel (hK1.drewN (nq+n2)) (i:=x) hxr
      obtain rfl:g=g2:=come_row heg.out eg2
      refine come_on hc hnow.2 hx hxm hn1 htgt hC1 hout.out.1 hsw hE1 hG1 hcan (by rw [hst];exact (hset2 (rl+1)).1) ?_ ha1
      exact (KEff.ext (by have h1:=hC1.lo;have h2:=hC1.gk_lt;have h3:=hC1.size;omega) (below_drewN (Below.refl _ _) _)).trans (hset2 (rl+1)).2
    ·gi_wp2_with fail
     (refine wpR_region_quiet (by kernel_rfl) (by kernel_rfl) (fun ⟨_,_,h⟩=>Exit.noConfusion (And.left (show Exit.outgrown=Exit.normal∧_ from h))) (by kernel_rfl) ?_;(repeat (go_big_quiet_step ((go_at_call 81;with_reducible refine Calls.quiet_of (HN.out _)))));refine wpQuiet_nil ?_;rintro _ ⟨nq,rfl⟩)
     gi_wp2_with fail
     exact ⟨hout.out.1 _ (by omega) (by omega),hout.out.1 _ (by omega) (by omega),hout.out.2 nq (by rw [relCan_stop,hR.out,hL.out];omega)⟩
   ·have hled:decide (R≤now)=false:=decide_eq_false hle
    gi_wp2_with fail
    (refine wpR_region_quiet (by kernel_rfl) (by kernel_rfl) (fun ⟨_,_,h⟩=>Exit.noConfusion (And.left (show Exit.outgrown=Exit.normal∧_ from h))) (by kernel_rfl) ?_;(repeat (go_big_quiet_step ((go_at_call 81;with_reducible refine Calls.quiet_of (HN.out _)))));refine wpQuiet_nil ?_;rintro _ ⟨nq,rfl⟩)
    gi_wp2_with fail
    exact ⟨hout.out.1 _ (by omega) (by omega),hout.out.1 _ (by omega) (by omega),hout.out.2 nq (by rw [relCan_stop,hR.out,hL.out];omega)⟩
 case done=>
  rintro xs W rfl hC hk hsz
  simp only [World.size_alloc] at hk hsz⊢
  rw [relPre_mine] at hC
  have hev0:=hC.ev
  have hC:=Cm2.of hC (by simpa using hk)
  have hrel:releaseOf c m now d=upTo (missStep c now) ((relAll c m now d).jobs.length - 0) 0 (relAll c m now d):=rfl
  have hok0:=relAll_ok hc hnow.2 hd
  replace hev0:(relAll c m now d).events.length+20≤4398046511104:=by omega
  generalize relAll c m now d=dr at hC hrel hok0 hev0
  obtain ⟨⟨G0,T0,hK0,hE0,hG0⟩,hb0,hb1,hdf,hs0,hgk0,hlo0,hlt0,_⟩:=hC
  have hbk:=hK0.blk
  have hnj:=hok0.njobs
  obtain ⟨cb,fb,zb⟩:=blk hbk
  obtain ⟨cx,fx,zx⟩:=blk hb0
  have hC:Cm2 w gk G B c S m now dr W:=⟨⟨G0,T0,hK0,hE0,hG0⟩,hb0,hb1,hdf,hs0,hgk0,hlo0,hlt0,hok0⟩
  gi_wp2_with fail
  clear cb fb cx fx
  gi_loopw [88] (fun iv wr=>∃(i:Nat) (d2:TDom),i≤dr.jobs.length∧iv= .int .i64 i∧releaseOf c m now d=upTo (missStep c now) (dr.jobs.length - i) i d2∧d2.jobs.length=dr.jobs.length∧d2.events.length+(20 - i)≤4398046511104∧Cm2 w gk G B c S m now d2 wr) (fun iv wr=>(dr.jobs.length - intOf iv).toNat)
  case atStart=>exact ⟨0,dr,Nat.zero_le _,rfl,hrel,rfl,hev0,hC⟩
  case round=>
   refine wpIn_wide.2 ?_
   obtain ⟨i,d2,hi,rfl,hup,hlen,hev2,hC2⟩:=hrel
   obtain ⟨⟨G1,T1,hK1,hE1,hG1⟩,hb0,hb1,hdf,hs1,hgk1,hlo1,hlt1,hok2⟩:=id hC2
   by_cases hlt:i < dr.jobs.length
   ·obtain ⟨g,eg,hGg,hgl,k0,k1,k2,k3,k4,k5⟩:=hK1.dom.job_cells (i:=i) (by omega)
    have hbk:=hK1.blk
    rw [eg,hlen] at hbk
    have heg:=zH eg
    clear eg
    obtain ⟨cb,fb,zb⟩:=blk hbk
    obtain ⟨cx,fx,zx⟩:=blk hb0
    have hi0:(0:Int)≤i:=by omega
    have hil:(i:Int) < dr.jobs.length:=by omega
    have hjo:=hok2.job i (by omega)
    have HC:=zH (keeperLate gk G1 B wr.drew c S m d2 T1 (hK1.drewN 1) (nth d2.jobs i) hjo.task (hc.job hjo) hjo.released hc.ntasks)
    have hgo:=zH (⟨hK1,hE1,hG1,hC2,hup,hev2,hok2⟩:_∧_∧_∧_∧_∧_∧_)
    clear hK1 hE1 hG1 hC2 hup hev2 hok2 hrel hev0 hC
    go_wp2_with fail
    (refine wp_region_still_tail 4 (by kernel_rfl) (by kernel_rfl) ?_;simp only [List.take_succ_cons,List.take_zero,List.drop_succ_cons,List.drop_zero];(iterate 4 (with_reducible refine wpStill_step (fun K hK=>?_);replace hK:=zH hK;go_simp;with_reducible refine hK.out _ ?_;clear hK K));refine wpStill_nil ?_)
    change wpList _ _ _ _ _ wr.drew
    cases hmi:(nth d2.jobs i).missed with
    |true=>
     rw [hmi] at HC
     go_wp2_with (go_at_call 83;refine HC.out.mono ?_;rintro e w2 ⟨rfl,hb2⟩;have hbw:Below wr.heap.size wr w2:=(Below.refl _ _).drew.trans hb2;have hK2:=hgo.out.1.ext hbw;obtain ⟨g2,eg2,hGg2,hgl2,hjc2,hfr2,hst2⟩:=kp_miss hK2 (i:=i) (by omega);obtain rfl:g=g2:=come_row heg.out eg2;clear eg2;have c2t:=hjc2 0 _ rfl;have c2n:=hjc2 1 _ rfl;have c2m:=hjc2 5 _ rfl;rw [hmi] at c2m;rw [Nat.add_zero] at c2t;clear hjc2;have hbk2:=(hbw.block _ zb).trans hbk;obtain ⟨cb2,fb2,zb2⟩:=blk hbk2;have hbx2:=(hbw.block _ zx).trans hb0;obtain ⟨cx2,fx2,zx2⟩:=blk hbx2;have hby2:=(hbw.block _ (blk hb1).2.2).trans hb1;obtain ⟨cy2,fy2,zy2⟩:=blk hby2;replace hK2:=zH hK2;replace hst2:=zH hst2;clear cb fb cx fx k0 k1 k2 k3 k4 k5;generalize hLL:lateOf c (nth d2.jobs i)=LL;replace hLL:=zH hLL)
     ·exact ⟨⟨i+1,d2,by omega,by go_num,by rw [hgo.out.2.2.2.2.1,upTo_step _ hlt,show missStep c now i d2=d2 from by unfold missStep;rw [if_neg (by rw [hmi];simp)]],hlen,by have:=hgo.out.2.2.2.2.2.1;omega,hgo.out.2.2.2.1.turn hgo.out.2.1 hgo.out.2.2.1 hK2.out (KEff.ext (by omega) hbw) hgo.out.2.2.2.2.2.2⟩,by simp [intOf];omega⟩
    |false=>
     rw [hmi] at HC
     go_wp2_with (go_at_call 83;refine HC.out.mono ?_;rintro e w2 ⟨rfl,hb2⟩;have hbw:Below wr.heap.size wr w2:=(Below.refl _ _).drew.trans hb2;have hK2:=hgo.out.1.ext hbw;obtain ⟨g2,eg2,hGg2,hgl2,hjc2,hfr2,hst2⟩:=kp_miss hK2 (i:=i) (by omega);obtain rfl:g=g2:=come_row heg.out eg2;clear eg2;have c2t:=hjc2 0 _ rfl;have c2n:=hjc2 1 _ rfl;have c2m:=hjc2 5 _ rfl;rw [hmi] at c2m;rw [Nat.add_zero] at c2t;clear hjc2;have hbk2:=(hbw.block _ zb).trans hbk;obtain ⟨cb2,fb2,zb2⟩:=blk hbk2;have hbx2:=(hbw.block _ zx).trans hb0;obtain ⟨cx2,fx2,zx2⟩:=blk hbx2;have hby2:=(hbw.block _ (blk hb1).2.2).trans hb1;obtain ⟨cy2,fy2,zy2⟩:=blk hby2;replace hK2:=zH hK2;replace hst2:=zH hst2;clear cb fb cx fx k0 k1 k2 k3 k4 k5;generalize hLL:lateOf c (nth d2.jobs i)=LL;replace hLL:=zH hLL;by_cases hlate:LL≤now)
     ·have hst:missStep c now i d2= {d2 with jobs:=d2.jobs.set i {nth d2.jobs i with missed:=true},events:=d2.events++[⟨LL,6,(nth d2.jobs i).task,(nth d2.jobs i).number⟩]} :=by
       unfold missStep;rw [if_pos (by rw [hmi,hLL.out];simpa using hlate),hLL.out]
      generalize hW3:w2.setCell ⟨g,i*6+5,none⟩ (.bool true)=W3 at hst2
      have hK3:=hst2.out.1
      have hE3:=hst2.out.2
      obtain ⟨g3,eg3,_,_,q0,q1,_⟩:=hK3.dom.job_cells (i:=i) (by simp;omega)
      obtain rfl:g=g3:=come_row heg.out eg3
      clear eg3
      dsimp only at q0 q1
      rw [nth_set_self (by omega)] at q0 q1
      dsimp only at q0 q1
      have hbx3:W3.heap[w.heap.size]?=some (.cells #[.pointer (some ⟨gk,0,none⟩)] 134):=by rw [← hW3];exact heap_set_far hbx2 (fun e=>by rcases hgo.out.2.2.1 0 _ hGg2 with h|h;exact absurd (hlt1 0 _ h) (by simp at e;omega);simp at e;omega)
      obtain ⟨cx3,fx3,zx3⟩:=blk hbx3
      have HT:=zH (keeperTell gk G1 B W3.drew c S m _ T1 (hK3.drewN 1) LL 6 (nth d2.jobs i).task (nth d2.jobs i).number (by have:=hgo.out.2.2.2.2.2.1;dsimp only;omega))
      replace hW3:=zH hW3
      clear cx2 fx2 cy2 fy2 cb2 fb2 c2t c2n c2m
      (refine wp_region_still_tail 10 (by kernel_rfl) (by kernel_rfl) ?_;simp only [List.take_succ_cons,List.take_zero,List.drop_succ_cons,List.drop_zero];(iterate 10 (with_reducible refine wpStill_step (fun K hK=>?_);replace hK:=zH hK;go_simp;with_reducible refine hK.out _ ?_;clear hK K));refine wpStill_nil ?_)
      change wpList _ _ _ _ _ W3.drew
      go_wp2_with (go_at_call 82;refine HT.out.mono ?_;rintro e w4 ⟨A5,n5,rfl,hK4,hE4⟩)
      have hok4:=missStep_ok (now:=now) (i:=i) hgo.out.2.2.2.2.2.2
      refine ⟨⟨i+1,missStep c now i d2,by omega,by go_num,by rw [hgo.out.2.2.2.2.1,upTo_step _ hlt],(missStep_length _ _ _ _).trans hlen,by rw [hst];have:=hgo.out.2.2.2.2.2.1;simp;omega,hgo.out.2.2.2.1.turn hgo.out.2.1 hgo.out.2.2.1 (by rw [hst];exact hK4) (((KEff.ext (by omega) hbw).trans hE3).trans ((KEff.ext (by have:=hbw.size;have:=hE3.below.size;omega) (Below.refl _ _).drew).trans hE4)) hok4⟩,by simp [intOf];omega⟩
     ·exact ⟨⟨i+1,d2,by omega,by go_num,by rw [hgo.out.2.2.2.2.1,upTo_step _ hlt,show missStep c now i d2=d2 from by unfold missStep;rw [if_neg (by rw [hLL.out];simp;omega)]],hlen,by have:=hgo.out.2.2.2.2.2.1;omega,hgo.out.2.2.2.1.turn hgo.out.2.1 hgo.out.2.2.1 hK2.out (KEff.ext (by omega) hbw) hgo.out.2.2.2.2.2.2⟩,by simp [intOf];omega⟩
   ·obtain rfl:i=dr.jobs.length:=by omega
    go_wp2_with fail
    obtain ⟨⟨G2,T2,hK2,hE2,hG2⟩,_⟩:=hC2
    have hend:releaseOf c m now d=d2:=by rw [hup];exact upTo_end _ (Nat.le_refl _) _
    refine ⟨by simp,.inl ⟨_,_,rfl,run_takeDeferred hdf,?_⟩⟩
    have hn:∀j,¬ G2 j (w.heap.size+2):=fun j hj=>by
     rcases hG2 j _ hj with h|h
     ·have:=hlt1 j _ h;omega
     ·omega
    refine ⟨.tuple #[],by simp [results,Tryd.results69,go_sem]<;>rfl,G2,T2,rfl,by rw [hend];exact hK2.put (by omega) hn (by omega) _,⟨below_putObj hE2.below (by omega) _,fun b hb hne hnn=>(World.putObj_heap_other (by omega)).trans (hE2.keep b hb hne hnn),fun j b hb=>?_⟩⟩
    simpa using hE2.grow j b hb
end Go.Proofs.YtinlmkhlgclbfabDoor
