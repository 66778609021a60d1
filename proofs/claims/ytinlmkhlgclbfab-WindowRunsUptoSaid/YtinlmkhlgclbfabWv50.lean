/-
  Proved: whatever it is handed, of bulk at most 1048576, the law WindowRuns returns true, and what it was handed reads behind the call as before it (Rows.WindowRunsUptoSaid).
  Conditions: none beyond those that the statement itself bears (the bulk; each slice that comes in takes at most the form's reach of bytes).
-/
import Derived.Test.YtinlmkhlgclbfabWv49
import Derived.OpenShut
import Derived.ShutString
import Derived.ChangeOld
import Derived.JoinedCond
import Derived.Below
namespace Go.Proofs.Ytinlmkhlgclbfab
open Go.ChangeShapes Go.WideShapes Go.ChangeAt Go.RowKit Go.Deep
set_option maxRecDepth 100000
theorem WindowRuns.room {d:TDom}(h:okDom d):DomSz d:=by
 obtain ⟨⟨a0,-⟩,⟨a1,-⟩,-,⟨a2,b2⟩,⟨a3,-⟩,⟨a4,b4⟩,⟨a5,-⟩⟩:=h
 have hr:reachBytes=140737488351232:=by kernel_rfl
 rw [hr] at a0 a1 a2 a3 a4 a5
 refine ⟨by omega,by omega,by omega,fun i hi=>?_,by omega,by omega,fun i hi=>?_,by omega⟩
 ·have m:nth d.ins i∈d.ins:=by rw [nth_eq hi];exact List.getElem_mem hi
  have:=(b2 _ m).1.1
  omega
 ·have m:nth d.outs i∈d.outs:=by rw [nth_eq hi];exact List.getElem_mem hi
  have:=(b4 _ m).1
  omega
theorem WindowRuns.own:ownKnob Try.prog.godebug=none:=by kernel_rfl
theorem WindowRuns.laidOut:laidOutB Try.prog=true:=by kernel_rfl
theorem WindowRuns.lifted (os:Os)(started:os.Started)(H:Type)(enc:TypeId×Value→H)(Fi:Stop.Interp):
  ReturnsInHanded {} Try.checked os 7 .any ((Rows.OpenSpec.upto Rows.windowRunsSpec).pre6 enc Try.prog Try.f7 Rows.windowRunsUptoRow.domain false) (((Rows.OpenSpec.upto Rows.windowRunsSpec).at Fi).post enc Try.prog Try.f7 false true false false):=by
 refine returnsInHanded_of_cond_sized (C:=Try.checked) (s:=Rows.OpenSpec.upto Rows.windowRunsSpec) (k:=Rows.uptoSmall) rfl WindowRuns.own started (by kernel_rfl) Try.func7
  (OpenSpec.witness (enc:=enc) (C:=Try.checked) (s:=Rows.OpenSpec.upto Rows.windowRunsSpec) (k:=Rows.uptoSmall) rfl false ⟨#[],#[.agg #[.int .i64 0,.int .i64 0,.int .i64 0,.int .i64 0,.int .i64 0,.slice none 0 0,.slice none 0 0,.slice none 0 0,.slice none 0 0],.int .i64 0,.agg #[.slice none 0 0,.slice none 0 0,.int .i64 0,.slice none 0 0,.slice none 0 0,.slice none 0 0,.slice none 0 0],.agg #[.slice none 0 0],.slice none 0 0,.agg #[.int .i64 0,.int .i64 0]],[]⟩ 8 (by kernel_rfl) (by kernel_rfl) (by kernel_rfl)
   (x:=([.agg [.lit (.int .i64 0),.lit (.int .i64 0),.lit (.int .i64 0),.lit (.int .i64 0),.lit (.int .i64 0),.nil,.nil,.nil,.nil],.lit (.int .i64 0),.agg [.nil,.nil,.lit (.int .i64 0),.nil,.nil,.nil,.nil],.agg [.nil],.nil,.agg [.lit (.int .i64 0),.lit (.int .i64 0)]],[],[])) (by kernel_rfl) rfl (by kernel_rfl)) ?_
 intro W base args ds gs before hval0 hW hcnd hk0 hsz0 _
 have hval:∀(j:Nat) t v,Try.f7.params[j]?=some t→args[j]?=some v→Value.okWide Try.prog W .any base t v:=hval0
 have hW':=hW
 obtain ⟨p,q,hA0,hV,rfl,hfz,hnd⟩:=hW
 have hA:DataW.TrodAll enc Try.prog W 0 (fun _=>true) true Try.f7.params.toList args.toList ds p:=hA0
 have hsz:(DataW.weightsEach Try.prog (Try.f7.params.toList++[]) (ds++gs)).all (· ≤reachBytes)=true:=hsz0
 rw [Try.params7] at hA hval hsz
 obtain ⟨v0,vs0,d0,ds0,p0,q0,hargs,rfl,rfl,h0,r0⟩:=trodAll_cons hA
 obtain ⟨v1,vs1,d1,ds1,p1,q1,rfl,rfl,rfl,h1,r1⟩:=trodAll_cons r0
 obtain ⟨v2,vs2,d2,ds2,p2,q2,rfl,rfl,rfl,h2,r2⟩:=trodAll_cons r1
 obtain ⟨v3,vs3,d3,ds3,p3,q3,rfl,rfl,rfl,h3,r3⟩:=trodAll_cons r2
 obtain ⟨v4,vs4,d4,ds4,p4,q4,rfl,rfl,rfl,h4,r4⟩:=trodAll_cons r3
 obtain ⟨v5,vs5,d5,ds5,p5,q5,rfl,rfl,rfl,h5,r5⟩:=trodAll_cons r4
 obtain ⟨rfl,rfl,rfl⟩:=trodAll_nil r5
 obtain rfl:args=#[v0,v1,v2,v3,v4,v5]:=by cases args;simp_all
 obtain ⟨rfl,rfl⟩:=trodVars_none hV
 simp only [List.append_nil,DataW.weightsEach,List.all_append,Bool.and_eq_true] at hsz
 obtain ⟨z0,z1,z2,z3,z4,z5⟩:=hsz
 have lt0:∀x∈p0,x.block < W.heap.size:=by obtain ⟨m,hm⟩:=h0;exact DataW.trod_lt m _ _ _ hm
 have lt1:∀x∈p1,x.block < W.heap.size:=by obtain ⟨m,hm⟩:=h1;exact DataW.trod_lt m _ _ _ hm
 have lt2:∀x∈p2,x.block < W.heap.size:=by obtain ⟨m,hm⟩:=h2;exact DataW.trod_lt m _ _ _ hm
 have lt3:∀x∈p3,x.block < W.heap.size:=by obtain ⟨m,hm⟩:=h3;exact DataW.trod_lt m _ _ _ hm
 have lt4:∀x∈p4,x.block < W.heap.size:=by obtain ⟨m,hm⟩:=h4;exact DataW.trod_lt m _ _ _ hm
 have lt5:∀x∈p5,x.block < W.heap.size:=by obtain ⟨m,hm⟩:=h5;exact DataW.trod_lt m _ _ _ hm
 have kk0:=h0
 have kk1:=h1
 have kk2:=h2
 have kk3:=h3
 have kk4:=h4
 have kk5:=h5
 obtain ⟨y0,e0,k0⟩:=opens_arg opens_cfg h0 z0
 obtain ⟨c0,rfl,_⟩:=okWide_struct Try.underlying27 (hval 0 27 v0 rfl rfl)
 obtain ⟨S0,he0,s0⟩:=e0
 obtain rfl:c0=(TCfg.cells y0 S0).toArray:=by cases c0;simpa [Value.cells] using he0
 obtain ⟨a1,rfl,rfl,rfl,_⟩:=open_int Try.underlying3 (hval 1 3 v1 rfl rfl) h1
 obtain ⟨y2,e2,k2⟩:=opens_arg opens_dom h2 z2
 obtain ⟨c2,rfl,_⟩:=okWide_struct Try.underlying45 (hval 2 45 v2 rfl rfl)
 obtain ⟨S2,he2,s2⟩:=e2
 obtain rfl:c2=(TDom.cells y2 S2).toArray:=by cases c2;simpa [Value.cells] using he2
 have sz2:=WindowRuns.room k2
 have ev2:=Nat.le_trans (bulk_events kk2) (bulk_at hk0 (by simp))
 obtain ⟨y3,e3,k3⟩:=opens_arg opens_cache h3 z3
 obtain ⟨c3,rfl,_⟩:=okWide_struct Try.underlying63 (hval 3 63 v3 rfl rfl)
 obtain ⟨A3,n3,he3,s3⟩:=e3
 obtain rfl:c3=#[.slice A3 y3.length n3]:=by cases c3;simpa [Value.cells] using he3
 obtain ⟨y4,e4,k4⟩:=opens_arg opens_acts h4 z4
 obtain ⟨A4,l4,n4,rfl⟩:=okWide_slice Try.underlying76 (hval 4 76 v4 rfl rfl)
 obtain ⟨B4,m4,he4,s4⟩:=e4
 simp only [Value.cells,List.cons.injEq,Value.slice.injEq,and_true] at he4
 obtain ⟨rfl,rfl,rfl⟩:=he4
 obtain ⟨y5,e5,k5⟩:=opens_arg opens_times h5 z5
 obtain ⟨c5,rfl,_⟩:=okWide_struct Try.underlying47 (hval 5 47 v5 rfl rfl)
 have he5:c5.toList=TTimes.cells y5:=by have h:=e5;simpa [cTimes,Cod.flat,Value.cells] using h
 obtain rfl:c5=(TTimes.cells y5).toArray:=by cases c5;simpa using he5
 show Calls _ _ _ _ fun e W'=>∃v,e= .returned v∧Rows.windowRunsSpec.post enc Try.prog Try.f7 false true false false W _ v W'
 refine (lawWindowRuns y0 S0 a1 y2 S2 y3 A3 n3 y4 A4 n4 y5 sz2 (by omega) W.heap.size W (Nat.le_refl _) s0 s2 s3 s4).mono fun e W' ⟨he,bel⟩=>?_
 subst he
 exact ⟨_,rfl,_,_,_,[],_,[],hW',trodAll_mk1 (shut_bool Try.underlying4 _),(trodAll_cons_mk (Below.trod WindowRuns.laidOut (by kernel_rfl) (of_decide_eq_true (by kernel_rfl)) kk0 bel lt0) (trodAll_cons_mk (Below.trod WindowRuns.laidOut (by kernel_rfl) (of_decide_eq_true (by kernel_rfl)) kk1 bel lt1) (trodAll_cons_mk (Below.trod WindowRuns.laidOut (by kernel_rfl) (of_decide_eq_true (by kernel_rfl)) kk2 bel lt2) (trodAll_cons_mk (Below.trod WindowRuns.laidOut (by kernel_rfl) (of_decide_eq_true (by kernel_rfl)) kk3 bel lt3) (trodAll_cons_mk (Below.trod WindowRuns.laidOut (by kernel_rfl) (of_decide_eq_true (by kernel_rfl)) kk4 bel lt4) (trodAll_cons_mk (Below.trod WindowRuns.laidOut (by kernel_rfl) (of_decide_eq_true (by kernel_rfl)) kk5 bel lt5) trodAll_mk0)))))),rfl,bel.frame _,fun h=>by cases h⟩
theorem windowRuns_holds:Rows.WindowRunsUptoSaid:=
 OpenClaim.holds_of_cond 7 Try.f7 rfl rfl rfl rfl rfl rfl rfl ⟨rfl,rfl,rfl,rfl,rfl⟩ rfl rfl rfl rfl rfl (by kernel_rfl) Try.func7 (by kernel_rfl)
  (of_decide_eq_true (by kernel_rfl)) (by unfold Func.isWrapper;first|(rw [if_pos (by decide+kernel)];kernel_rfl)|(rw [if_neg (by decide+kernel)];exact ⟨rfl,rfl⟩))
  (fun os started H enc _ Fi=>WindowRuns.lifted os started H enc Fi)
#print axioms windowRuns_holds
end Go.Proofs.Ytinlmkhlgclbfab
