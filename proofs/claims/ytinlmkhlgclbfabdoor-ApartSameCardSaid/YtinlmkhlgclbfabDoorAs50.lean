/-
  Proved: whatever it is handed, the law ApartSame returns true, and what it was handed reads behind the call as before it (Rows.ApartSameCardSaid: the row, tied to the program's text by the given tie).
  Conditions: none beyond those that the statement itself bears (each slice that comes in takes at most the form's reach of bytes; the listed tables of Go's library hold what the program's text lays).
-/
import Derived.Test.YtinlmkhlgclbfabDoorAs49
import Derived.Test.YtinlmkhlgclbfabDoorRows
import Derived.Test.YtinlmkhlgclbfabDoorTie
import Derived.Test.YtinlmkhlgclbfabDoorCards
import Derived.LaidMore
import Derived.Lib.LaidTab
import Derived.Stop.LaidErr
import Derived.MakeChecks
import Derived.SevenTiedAt
import Derived.OpenShut
import Derived.ShutString
import Derived.ChangeOld
import Derived.Below
namespace Go.Proofs.YtinlmkhlgclbfabDoor
open Go.ChangeShapes Go.WideShapes Go.ChangeAt Go.RowKit Go.Deep
set_option maxRecDepth 100000
theorem ApartSame.own:ownKnob Tryd.prog.godebug=none:=by kernel_rfl
theorem ApartSame.laidOut:laidOutB Tryd.prog=true:=by kernel_rfl
theorem ApartSame.pow_of_laid {W:World}(h:laidMetH Tryd.prog Rows.apartSameRow.laid W):PowTab W:=by
 rw [MakeChecks.laidMetH_plain _ _ _ (by kernel_rfl)] at h
 have h3:laidMet Tryd.prog (("internal/strconv.uint64pow10",Lib.tabData .u64 Lib.pow10Tab)::[]) W:=laidMet.tail (laidMet.tail h)
 have hg:Tryd.prog.globalNamed "internal/strconv.uint64pow10" =some 0:=by kernel_rfl
 have ht:Lib.TabIs Tryd.prog W "internal/strconv.uint64pow10" .u64 Lib.pow10Tab:=Lib.tabIs_of_head hg (by kernel_rfl) Tryd.underlying155 Tryd.underlying142 (by kernel_rfl) (by kernel_rfl) h3
 unfold Lib.TabIs World.var? at ht
 rw [hg] at ht
 simp only [Option.bind_some] at ht
 unfold PowTab
 split at ht
 ·rename_i cs t fr e
  obtain rfl:=Option.some.inj ht
  exact ⟨t,fr,e⟩
 ·cases ht
theorem ApartSame.door_met (os:Os)(args:Array Value):laidMetH Tryd.prog Rows.apartSameRow.laid ((World.doorLaid Tryd.prog 24 os).forCall (fun _ _=>0) ⟨#[],args,[]⟩).memory:=by
 rw [MakeChecks.laidMetH_plain _ _ _ (by kernel_rfl)]
 exact laidMet_of_run' 8 (by kernel_rfl) (by kernel_rfl)
theorem ApartSame.lifted (os:Os)(started:os.Started)(H:Type)(enc:TypeId×Value→H):
  ReturnsInHanded {} Tryd.checked os 3 .any (fun w args=>(Rows.apartSameSpec.pre enc Tryd.prog Tryd.f3 [] false w args∧laidMetH Tryd.prog Rows.apartSameRow.laid w)∧sizedMet enc Tryd.prog Tryd.f3 (OpenSpec.ofChange Rows.apartSameSpec) false w args) (Rows.apartSameSpec.post enc Tryd.prog Tryd.f3 false true false false):=by
 refine returnsInHanded_of_change_and (C:=Tryd.checked) (X:=fun w _=>laidMetH Tryd.prog Rows.apartSameRow.laid w) (fun _ _ _ hh h=>h.of_heap hh) ApartSame.own started (by kernel_rfl) Tryd.func3
  (ChangeSpec.witness_shaped (enc:=enc) (C:=Tryd.checked) (os:=os) (X:=fun w _=>laidMetH Tryd.prog Rows.apartSameRow.laid w) false (World.doorLaid Tryd.prog 24 os) #[.agg #[.int .i64 0,.int .i64 0,.int .i64 0,.int .i64 0,.int .i64 0,.slice none 0 0,.slice none 0 0,.slice none 0 0,.slice none 0 0],.agg #[.slice none 0 0,.slice none 0 0,.int .i64 0]] 8 rfl (World.shaped_of_RefB (by kernel_rfl) (by kernel_rfl)) (by kernel_rfl) (by kernel_rfl) (by kernel_rfl) (ApartSame.door_met os _)) ?_
 intro W base args ds gs before hval0 hW hcnd hsz0 hL _
 have hval:∀(j:Nat) t v,Tryd.f3.params[j]?=some t→args[j]?=some v→Value.okWide Tryd.prog W .any base t v:=hval0
 have hW':=hW
 obtain ⟨p,q,hA0,hV,rfl,hfz,hnd⟩:=hW
 have hA:DataW.TrodAll enc Tryd.prog W 0 (fun _=>true) true Tryd.f3.params.toList args.toList ds p:=hA0
 have hsz:(DataW.weightsEach Tryd.prog (Tryd.f3.params.toList++[]) (ds++gs)).all (· ≤reachBytes)=true:=hsz0
 rw [Tryd.params3] at hA hval hsz
 obtain ⟨v0,vs0,d0,ds0,p0,q0,hargs,rfl,rfl,h0,r0⟩:=trodAll_cons hA
 obtain ⟨v1,vs1,d1,ds1,p1,q1,rfl,rfl,rfl,h1,r1⟩:=trodAll_cons r0
 obtain ⟨rfl,rfl,rfl⟩:=trodAll_nil r1
 obtain rfl:args=#[v0,v1]:=by cases args;simp_all
 obtain ⟨rfl,rfl⟩:=trodVars_none hV
 simp only [List.append_nil,DataW.weightsEach,List.all_append,Bool.and_eq_true] at hsz
 obtain ⟨z0,z1⟩:=hsz
 have lt0:∀x∈p0,x.block < W.heap.size:=by obtain ⟨m,hm⟩:=h0;exact DataW.trod_lt m _ _ _ hm
 have lt1:∀x∈p1,x.block < W.heap.size:=by obtain ⟨m,hm⟩:=h1;exact DataW.trod_lt m _ _ _ hm
 have kk0:=h0
 have kk1:=h1
 obtain ⟨y0,e0,k0⟩:=opens_arg opens_cfg h0 z0
 obtain ⟨c0,rfl,_⟩:=okWide_struct Tryd.underlying27 (hval 0 27 v0 rfl rfl)
 obtain ⟨S0,he0,s0⟩:=e0
 obtain rfl:c0=(TCfg.cells y0 S0).toArray:=by cases c0;simpa [Value.cells] using he0
 obtain ⟨y1,e1,k1⟩:=opens_arg opens_scr h1 z1
 obtain ⟨c1,rfl,_⟩:=okWide_struct Tryd.underlying31 (hval 1 31 v1 rfl rfl)
 obtain ⟨S1,he1,s1⟩:=e1
 obtain rfl:c1=(TScr.cells y1 S1).toArray:=by cases c1;simpa [Value.cells] using he1
 refine (lawApartSame y0 S0 y1 S1 W.heap.size W (Nat.le_refl _) s0 s1 (ApartSame.pow_of_laid hL)).mono fun e W' ⟨he,bel⟩=>?_
 subst he
 exact ⟨_,rfl,_,_,_,[],_,[],hW',trodAll_mk1 (shut_bool Tryd.underlying4 _),(trodAll_cons_mk (Below.trod ApartSame.laidOut (by kernel_rfl) (of_decide_eq_true (by kernel_rfl)) kk0 bel lt0) (trodAll_cons_mk (Below.trod ApartSame.laidOut (by kernel_rfl) (of_decide_eq_true (by kernel_rfl)) kk1 bel lt1) trodAll_mk0)),rfl,bel.frame _,fun h=>by cases h⟩
theorem apartSame_holds:Rows.ApartSameSaid:=
 OpenClaim.holds_of_wide 3 Tryd.f3 rfl rfl rfl rfl rfl rfl rfl ⟨rfl,rfl,rfl,rfl,rfl⟩ rfl rfl rfl rfl rfl (by kernel_rfl) Tryd.func3 (by kernel_rfl)
  (of_decide_eq_true (by kernel_rfl)) (by unfold Func.isWrapper;first|(rw [if_pos (by decide+kernel)];kernel_rfl)|(rw [if_neg (by decide+kernel)];exact ⟨rfl,rfl⟩))
  (fun os started H enc _=>ApartSame.lifted os started H enc)
set_option maxHeartbeats 4000000 in
theorem apartSame_card_holds:Rows.ApartSameCardSaid:=
 Claim7.holds_tied_plain_at .later [] [.data,.data,.data] true Rows.apartSameCard.stood.harness false
  apartSame_holds (fun _ h=>by cases h) (by kernel_rfl) (fun _ h=>by cases h) apartSame_row_tie rfl ⟨rfl,rfl⟩ (by kernel_rfl) rfl
  (fun f fn hf hfn=>by
   obtain rfl:f=3:=Option.some.inj ((show Tryd.prog.funcNamed "clockwall/clockwalllaw.ApartSame" =some 3 by kernel_rfl).symm.trans hf)|>.symm
   obtain rfl:fn=Tryd.f3:=(Option.some.inj (Tryd.func3.symm.trans hfn)).symm
   exact ⟨by kernel_rfl,fun j t ht=>by
    rw [Tryd.params3] at ht
    have hm:t∈[27,31]:=by simpa using Array.mem_of_getElem? ht
    have hall:([27,31].all fun u=>!Tryd.prog.wantsStandIn u)=true:=by kernel_rfl
    exact (show Tryd.prog.wantsStandIn t=false by simpa using List.all_eq_true.1 hall t hm)⟩)
  (by kernel_rfl)
#print axioms apartSame_card_holds
end Go.Proofs.YtinlmkhlgclbfabDoor
