/- ReadyA -/
import Derived.Test.YtinlmkhlgclbfabWv28
namespace Go.Proofs.Ytinlmkhlgclbfab
open Go.RowKit
set_option maxRecDepth 100000
set_option maxHeartbeats 1000000
theorem readyWithin (n a b:Int)(w:World):
  Calls Try.prog 127 #[.int .i64 n,.int .i64 a,.int .i64 b] w fun e w'=>e= .returned (.bool (inB a n b))∧w=w':=by
 go_enter Try.func127,Try.ntmps127
 go_wp2
 all_goals go_ret
 all_goals (unfold inB;simp [*]<;>omega)
theorem readyForm1 (n m:Int)(w:World):
  Calls Try.prog 126 #[.int .i64 n,.int .i64 m] w fun e w'=>e= .returned (.bool (!inB 0 n m))∧w=w':=by
 go_enter Try.func126,Try.ntmps126
 go_wp2_with (go_at_call 127;refine (readyWithin _ _ _ _).mono ?_;rintro e w' ⟨rfl,rfl⟩)
 go_ret
 exact ⟨rfl,rfl⟩
theorem readyForm2 (n:Int)(g:Nat)(w:World)(hg:w.heap[g]?=some (.cells #[.func (.func 126) #[] #[]] 174)):
  Calls Try.prog 128 #[.int .i64 n,.pointer (some ⟨g,0,none⟩)] w fun e w'=>e= .returned (.bool (!inB 0 n 100000))∧Below w.heap.size w w':=by
 obtain ⟨cg,fg,zg⟩:=blk hg
 go_enter Try.func128,Try.ntmps128
 go_wp2_with (refine (readyForm1 _ _ _).mono ?_;rintro e w' ⟨rfl,rfl⟩)
 go_ret
 exact ⟨rfl,byB⟩
theorem readyForm3 (n:Int)(g:Nat)(w:World)(hg:w.heap[g]?=some (.cells #[.func (.func 126) #[] #[]] 174)):
  Calls Try.prog 129 #[.int .i64 n,.pointer (some ⟨g,0,none⟩)] w fun e w'=>e= .returned (.bool (!inB 0 n 15))∧Below w.heap.size w w':=by
 obtain ⟨cg,fg,zg⟩:=blk hg
 go_enter Try.func129,Try.ntmps129
 go_wp2_with (refine (readyForm1 _ _ _).mono ?_;rintro e w' ⟨rfl,rfl⟩)
 go_ret
 exact ⟨rfl,byB⟩
theorem enters_form2:Enters Try.prog 128:=fun _ _=>by kernel_rfl
theorem enters_form3:Enters Try.prog 129:=fun _ _=>by kernel_rfl
theorem dom_len {I:Nat→Prop}{w:World}{d:TDom}{T:TDomS}(h:TDom.At I w d T):d.jobs.length≤9223372036854775807∧d.released.length≤9223372036854775807∧d.ins.length≤9223372036854775807∧d.taken.length≤9223372036854775807∧d.outs.length≤9223372036854775807∧d.events.length≤9223372036854775807:=by
 have h0:=Nat.le_trans h.s0.cap h.s0.max
 have h1:=Nat.le_trans h.s1.cap h.s1.max
 have h2:=Nat.le_trans h.s2.cap h.s2.max
 have h3:=Nat.le_trans h.s3.cap h.s3.max
 have h4:=Nat.le_trans h.s4.cap h.s4.max
 have h5:=Nat.le_trans h.s5.cap h.s5.max
 unfold maxLen at h0 h1 h2 h3 h4 h5
 omega
theorem readyForm (c:TCfg)(S:TCfgS)(d:TDom)(T:TDomS)(B:Nat)(w:World)(hB:B≤w.heap.size)(hd:TDom.At (Low B) w d T):
  Calls Try.prog 93 #[.agg #[.int .i64 c.sets,.int .i64 c.ways,.int .i64 c.doms,.int .i64 c.pad,.int .i64 c.quantum,.slice S.a0 c.slots.length S.n0,.slice S.a1 c.owners.length S.n1,.slice S.a2 c.chans.length S.n2,.slice S.a3 c.tasks.length S.n3],.agg #[.slice T.a0 d.jobs.length T.n0,.slice T.a1 d.released.length T.n1,.int .i64 d.next,.slice T.a2 d.ins.length T.n2,.slice T.a3 d.taken.length T.n3,.slice T.a4 d.outs.length T.n4,.slice T.a5 d.events.length T.n5]] w fun e w'=>e= .returned (.int .i64 (formErr c d))∧Below w.heap.size w w':=by
 have H1:=zH (fun W (h:Below w.heap.size w W) (hg:W.heap[w.heap.size+1+1]?=some (.cells #[.func (.func 126) #[] #[]] 174))=>
  containsInt d.released T.a1 T.n1 128 #[.pointer (some ⟨w.heap.size+1+1,0,none⟩)] (fun i=>!inB 0 (nth d.released i) 100000) B W (Nat.le_trans hB h.size) (hd.s1.next hB h) enters_form2
   (fun k hk W' hb=>readyForm2 _ _ W' ((hb.block _ (by obtain ⟨_,_,z⟩:=blk hg;exact z)).trans hg)))
 have H3:=zH (fun W (h:Below w.heap.size w W) (hg:W.heap[w.heap.size+1+1]?=some (.cells #[.func (.func 126) #[] #[]] 174))=>
  containsInt d.taken T.a3 T.n3 129 #[.pointer (some ⟨w.heap.size+1+1,0,none⟩)] (fun i=>!inB 0 (nth d.taken i) 15) B W (Nat.le_trans hB h.size) (hd.s3.next hB h) enters_form3
   (fun k hk W' hb=>readyForm3 _ _ W' ((hb.block _ (by obtain ⟨_,_,z⟩:=blk hg;exact z)).trans hg)))
 clear hd
 have hst:∀(a:Addr) (W:World),(store a (.func (.func 126) #[] #[])).run Try.prog W=stored Try.prog W a (.func (.func 126) #[] #[]) .plain:=fun a W=>run_store _ W a _ _ rfl
 cases b1:((d.released.length:Int) !=(c.tasks.length:Int))
 case true=>
  have R:=zH (show formErr c d=1 by unfold formErr;rw [if_pos (by simp at b1;omega)])
  go_enter Try.func93,Try.ntmps93
  go_wp2
  go_ret
  exact ⟨ret_int R.out.symm,byB⟩
 cases b2:((d.ins.length:Int) !=(c.chans.length:Int))
 case true=>
  have R:=zH (show formErr c d=1 by unfold formErr;rw [if_pos (by simp at b2;omega)])
  go_enter Try.func93,Try.ntmps93
  go_wp2
  go_ret
  exact ⟨ret_int R.out.symm,byB⟩
 cases b3:((d.outs.length:Int) !=(c.chans.length:Int))
 case true=>
  have R:=zH (show formErr c d=1 by unfold formErr;rw [if_pos (by simp at b3;omega)])
  go_enter Try.func93,Try.ntmps93
  go_wp2
  go_ret
  exact ⟨ret_int R.out.symm,byB⟩
 cases b4:((d.taken.length:Int) !=(c.owners.length:Int))
 case true=>
  have R:=zH (show formErr c d=1 by unfold formErr;rw [if_pos (by simp at b4;omega)])
  go_enter Try.func93,Try.ntmps93
  go_wp2
  go_ret
  exact ⟨ret_int R.out.symm,byB⟩
 have R0:=zH (show formErr c d=if anyI d.released.length (fun i=>!inB 0 (nth d.released i) 100000)|| !inB 0 d.next 100000||anyI d.taken.length (fun i=>!inB 0 (nth d.taken i) 15) then 3
   else if 20 < d.jobs.length then 2 else 0 by unfold formErr;rw [if_neg (by simp at b1 b2 b3 b4;omega)])
 cases a1:anyI d.released.length (fun i=>!inB 0 (nth d.released i) 100000)
 case true=>
  have R:=zH (show formErr c d=3 by rw [R0.out,a1];rfl)
  rw [a1] at H1
  clear a1
  go_enter Try.func93,Try.ntmps93
  go_wp2_with fail
  (go_at_call 122;refine (H1.out _ byB byH).mono ?_;rintro e w1 ⟨rfl,hb_w1⟩;refine armT w hb_w1 (fun h_w1 s_w1 t_w1 hb_w1=>?_);(try simp at t_w1))
  go_wp2
  go_ret
  exact ⟨ret_int R.out.symm,byB⟩
 cases a2:inB 0 d.next 100000
 ·have R:=zH (show formErr c d=3 by rw [R0.out,a1,a2];rfl)
  rw [a1] at H1
  clear a1
  go_enter Try.func93,Try.ntmps93
  go_wp2_with fail
  (go_at_call 122;refine (H1.out _ byB byH).mono ?_;rintro e w1 ⟨rfl,hb_w1⟩;refine kbb (show w1.heap[w.heap.size]?=some (.cells #[.int .i64 c.sets,.int .i64 c.ways,.int .i64 c.doms,.int .i64 c.pad,.int .i64 c.quantum,.slice S.a0 c.slots.length S.n0,.slice S.a1 c.owners.length S.n1,.slice S.a2 c.chans.length S.n2,.slice S.a3 c.tasks.length S.n3] 27) from (hb_w1.block _ byS).trans byH) (fun c_w1 cc_w1 fc_w1 zc_w1=>?_);refine kbb (show w1.heap[w.heap.size+1]?=some (.cells #[.slice T.a0 d.jobs.length T.n0,.slice T.a1 d.released.length T.n1,.int .i64 d.next,.slice T.a2 d.ins.length T.n2,.slice T.a3 d.taken.length T.n3,.slice T.a4 d.outs.length T.n4,.slice T.a5 d.events.length T.n5] 45) from (hb_w1.block _ byS).trans byH) (fun d_w1 cd_w1 fd_w1 zd_w1=>?_);refine kbb (show w1.heap[w.heap.size+1+1]?=some (.cells #[.func (.func 126) #[] #[]] 174) from (hb_w1.block _ byS).trans byH) (fun f_w1 cf_w1 ff_w1 zf_w1=>?_);refine armT w hb_w1 (fun h_w1 s_w1 t_w1 hb_w1=>?_);(try simp at t_w1))
  go_wp2_with (refine (readyForm1 _ _ _).mono ?_;rintro e w' ⟨rfl,rfl⟩)
  go_ret
  exact ⟨ret_int R.out.symm,byB⟩
 cases a3:anyI d.taken.length (fun i=>!inB 0 (nth d.taken i) 15)
 case true=>
  have R:=zH (show formErr c d=3 by rw [R0.out,a1,a2,a3];rfl)
  rw [a1] at H1
  rw [a3] at H3
  clear a1 a3
  go_enter Try.func93,Try.ntmps93
  go_wp2_with fail
  (go_at_call 122;refine (H1.out _ byB byH).mono ?_;rintro e w1 ⟨rfl,hb_w1⟩;refine kbb (show w1.heap[w.heap.size]?=some (.cells #[.int .i64 c.sets,.int .i64 c.ways,.int .i64 c.doms,.int .i64 c.pad,.int .i64 c.quantum,.slice S.a0 c.slots.length S.n0,.slice S.a1 c.owners.length S.n1,.slice S.a2 c.chans.length S.n2,.slice S.a3 c.tasks.length S.n3] 27) from (hb_w1.block _ byS).trans byH) (fun c_w1 cc_w1 fc_w1 zc_w1=>?_);refine kbb (show w1.heap[w.heap.size+1]?=some (.cells #[.slice T.a0 d.jobs.length T.n0,.slice T.a1 d.released.length T.n1,.int .i64 d.next,.slice T.a2 d.ins.length T.n2,.slice T.a3 d.taken.length T.n3,.slice T.a4 d.outs.length T.n4,.slice T.a5 d.events.length T.n5] 45) from (hb_w1.block _ byS).trans byH) (fun d_w1 cd_w1 fd_w1 zd_w1=>?_);refine kbb (show w1.heap[w.heap.size+1+1]?=some (.cells #[.func (.func 126) #[] #[]] 174) from (hb_w1.block _ byS).trans byH) (fun f_w1 cf_w1 ff_w1 zf_w1=>?_);refine armT w hb_w1 (fun h_w1 s_w1 t_w1 hb_w1=>?_);(try simp at t_w1))
  go_wp2_with (refine (readyForm1 _ _ _).mono ?_;rintro e w' ⟨rfl,rfl⟩)
  (go_at_call 122;refine (H3.out _ byB byH).mono ?_;rintro e w2 ⟨rfl,hb_w2⟩;refine kbb (kb c_w1 hb_w2) (fun c_w2 cc_w2 fc_w2 zc_w2=>?_);refine kbb (kb d_w1 hb_w2) (fun d_w2 cd_w2 fd_w2 zd_w2=>?_);refine kbb (kb f_w1 hb_w2) (fun f_w2 cf_w2 ff_w2 zf_w2=>?_);refine armT w hb_w2 (fun h_w2 s_w2 t_w2 hb_w2=>?_);(try simp at t_w2);clear c_w1 cc_w1 fc_w1 d_w1 cd_w1 fd_w1 f_w1 cf_w1 ff_w1)
  go_wp2_with fail
  go_ret
  exact ⟨ret_int R.out.symm,byB⟩
 have R1:=zH (show formErr c d=if 20 < d.jobs.length then 2 else 0 by rw [R0.out,a1,a2,a3];rfl)
 rw [a1] at H1
 rw [a3] at H3
 clear a1 a3 R0
 cases a4:decide (20 < (d.jobs.length:Int))
 ·have R:=zH (show formErr c d=0 by rw [R1.out,if_neg (by simp at a4;omega)])
  go_enter Try.func93,Try.ntmps93
  go_wp2_with fail
  (go_at_call 122;refine (H1.out _ byB byH).mono ?_;rintro e w1 ⟨rfl,hb_w1⟩;refine kbb (show w1.heap[w.heap.size]?=some (.cells #[.int .i64 c.sets,.int .i64 c.ways,.int .i64 c.doms,.int .i64 c.pad,.int .i64 c.quantum,.slice S.a0 c.slots.length S.n0,.slice S.a1 c.owners.length S.n1,.slice S.a2 c.chans.length S.n2,.slice S.a3 c.tasks.length S.n3] 27) from (hb_w1.block _ byS).trans byH) (fun c_w1 cc_w1 fc_w1 zc_w1=>?_);refine kbb (show w1.heap[w.heap.size+1]?=some (.cells #[.slice T.a0 d.jobs.length T.n0,.slice T.a1 d.released.length T.n1,.int .i64 d.next,.slice T.a2 d.ins.length T.n2,.slice T.a3 d.taken.length T.n3,.slice T.a4 d.outs.length T.n4,.slice T.a5 d.events.length T.n5] 45) from (hb_w1.block _ byS).trans byH) (fun d_w1 cd_w1 fd_w1 zd_w1=>?_);refine kbb (show w1.heap[w.heap.size+1+1]?=some (.cells #[.func (.func 126) #[] #[]] 174) from (hb_w1.block _ byS).trans byH) (fun f_w1 cf_w1 ff_w1 zf_w1=>?_);refine armT w hb_w1 (fun h_w1 s_w1 t_w1 hb_w1=>?_);(try simp at t_w1))
  go_wp2_with (refine (readyForm1 _ _ _).mono ?_;rintro e w' ⟨rfl,rfl⟩)
  (go_at_call 122;refine (H3.out _ byB byH).mono ?_;rintro e w2 ⟨rfl,hb_w2⟩;refine kbb (kb c_w1 hb_w2) (fun c_w2 cc_w2 fc_w2 zc_w2=>?_);refine kbb (kb d_w1 hb_w2) (fun d_w2 cd_w2 fd_w2 zd_w2=>?_);refine kbb (kb f_w1 hb_w2) (fun f_w2 cf_w2 ff_w2 zf_w2=>?_);refine armT w hb_w2 (fun h_w2 s_w2 t_w2 hb_w2=>?_);(try simp at t_w2);clear c_w1 cc_w1 fc_w1 d_w1 cd_w1 fd_w1 f_w1 cf_w1 ff_w1)
  go_wp2_with fail
  go_ret
  exact ⟨ret_int R.out.symm,byB⟩
 ·have R:=zH (show formErr c d=2 by rw [R1.out,if_pos (by simp at a4;omega)])
  go_enter Try.func93,Try.ntmps93
  go_wp2_with fail
  (go_at_call 122;refine (H1.out _ byB byH).mono ?_;rintro e w1 ⟨rfl,hb_w1⟩;refine kbb (show w1.heap[w.heap.size]?=some (.cells #[.int .i64 c.sets,.int .i64 c.ways,.int .i64 c.doms,.int .i64 c.pad,.int .i64 c.quantum,.slice S.a0 c.slots.length S.n0,.slice S.a1 c.owners.length S.n1,.slice S.a2 c.chans.length S.n2,.slice S.a3 c.tasks.length S.n3] 27) from (hb_w1.block _ byS).trans byH) (fun c_w1 cc_w1 fc_w1 zc_w1=>?_);refine kbb (show w1.heap[w.heap.size+1]?=some (.cells #[.slice T.a0 d.jobs.length T.n0,.slice T.a1 d.released.length T.n1,.int .i64 d.next,.slice T.a2 d.ins.length T.n2,.slice T.a3 d.taken.length T.n3,.slice T.a4 d.outs.length T.n4,.slice T.a5 d.events.length T.n5] 45) from (hb_w1.block _ byS).trans byH) (fun d_w1 cd_w1 fd_w1 zd_w1=>?_);refine kbb (show w1.heap[w.heap.size+1+1]?=some (.cells #[.func (.func 126) #[] #[]] 174) from (hb_w1.block _ byS).trans byH) (fun f_w1 cf_w1 ff_w1 zf_w1=>?_);refine armT w hb_w1 (fun h_w1 s_w1 t_w1 hb_w1=>?_);(try simp at t_w1))
  go_wp2_with (refine (readyForm1 _ _ _).mono ?_;rintro e w' ⟨rfl,rfl⟩)
  (go_at_call 122;refine (H3.out _ byB byH).mono ?_;rintro e w2 ⟨rfl,hb_w2⟩;refine kbb (kb c_w1 hb_w2) (fun c_w2 cc_w2 fc_w2 zc_w2=>?_);refine kbb (kb d_w1 hb_w2) (fun d_w2 cd_w2 fd_w2 zd_w2=>?_);refine kbb (kb f_w1 hb_w2) (fun f_w2 cf_w2 ff_w2 zf_w2=>?_);refine armT w hb_w2 (fun h_w2 s_w2 t_w2 hb_w2=>?_);(try simp at t_w2);clear c_w1 cc_w1 fc_w1 d_w1 cd_w1 fd_w1 f_w1 cf_w1 ff_w1)
  go_wp2_with fail
  go_ret
  exact ⟨ret_int R.out.symm,byB⟩
theorem readyJob (c:TCfg)(S:TCfgS)(dom:Int)(j:TJob)(hc:CfgOk c)(B:Nat)(w:World)(hB:B≤w.heap.size)(hs:TCfg.At (Low B) w c S):
  Calls Try.prog 94 #[.agg #[.int .i64 c.sets,.int .i64 c.ways,.int .i64 c.doms,.int .i64 c.pad,.int .i64 c.quantum,.slice S.a0 c.slots.length S.n0,.slice S.a1 c.owners.length S.n1,.slice S.a2 c.chans.length S.n2,.slice S.a3 c.tasks.length S.n3],.int .i64 dom,.agg #[.int .i64 j.task,.int .i64 j.number,.int .i64 j.released,.int .i64 j.used,.bool j.ran,.bool j.missed]] w fun e w'=>e= .returned (.int .i64 (jobErr c dom j))∧Below w.heap.size w w':=by
 obtain ⟨m0,m1,m2,m3⟩:=cfg_len hs
 have hw:IntKind.i64.wrap ((c.tasks.length:Int) - 1)=(c.tasks.length:Int) - 1:=IntWalk.i64_in _ (by omega)
 obtain ⟨task,number,released,used,ran,missed⟩:=j
 dsimp only
 cases b1:inB 0 task ((c.tasks.length:Int) - 1)
 ·have R:=zH (show jobErr c dom ⟨task,number,released,used,ran,missed⟩=5 by unfold jobErr;rw [if_pos (by simp [b1])])
  clear hs hc
  go_enter Try.func94,Try.ntmps94
  go_wp2_with (go_at_call 127;refine (readyWithin _ _ _ _).mono ?_;rintro e w' ⟨rfl,rfl⟩)
  go_ret
  exact ⟨ret_int R.out.symm,byB⟩
 obtain ⟨q0,q1⟩:=inB_true.1 b1
 obtain ⟨m,rfl⟩:=Int.eq_ofNat_of_zero_le q0
 have hm:m < c.tasks.length:=by omega
 have R0:=zH (show jobErr c dom ⟨m,number,released,used,ran,missed⟩=if (nth c.tasks m).dom≠dom then 5
  else if !inB 0 number 100000|| !inB 0 released 100000|| !inB 0 used ((nth c.tasks m).budget - 1) then 3 else 0 by unfold jobErr;rw [if_neg (by simp [b1])];rfl)
 have hbud:=hc.task m hm
 have hwb:IntKind.i64.wrap ((nth c.tasks m).budget - 1)=(nth c.tasks m).budget - 1:=IntWalk.i64_in _ (by omega)
 clear hbud hc
 (obtain ⟨a0,n0,a1,n1,a2,n2,a3,n3⟩:=S;obtain ⟨hs0,hs1,hs2,hs3⟩:=hs;dsimp only at hs0 hs1 hs2 hs3⊢)
 obtain ⟨b,o,rfl,hI,hc0,hc1,hc2,hc3⟩:=hs3.at_task hm
 have hbl:b < w.heap.size:=Nat.lt_of_lt_of_le hI hB
 have hm0:(0:Int)≤m:=by omega
 have hm1:(m:Int) < c.tasks.length:=by omega
 cases b2:((nth c.tasks m).dom !=dom)
 case true=>
  have R:=zH (show jobErr c dom ⟨m,number,released,used,ran,missed⟩=5 by rw [R0.out,if_pos (by simpa using b2)])
  go_enter Try.func94,Try.ntmps94
  go_wp2_with (go_at_call 127;refine (readyWithin _ _ _ _).mono ?_;rintro e w' ⟨rfl,rfl⟩)
  go_ret
  exact ⟨ret_int R.out.symm,byB⟩
 have R1:=zH (show jobErr c dom ⟨m,number,released,used,ran,missed⟩=if !inB 0 number 100000|| !inB 0 released 100000|| !inB 0 used ((nth c.tasks m).budget - 1) then 3 else 0 by rw [R0.out,if_neg (by simpa using b2)])
 clear R0
 cases b3:inB 0 number 100000
 ·have R:=zH (show jobErr c dom ⟨m,number,released,used,ran,missed⟩=3 by rw [R1.out,b3];rfl)
  have W3:=zH (fun W=>(readyWithin number 0 100000 W).mono fun e w' h=>(⟨by rw [h.1,b3],h.2.symm⟩:e= .returned (.bool _)∧w'=W))
  clear b3
  go_enter Try.func94,Try.ntmps94
  go_wp2_with (go_at_call 127;refine (readyWithin _ _ _ _).mono ?_;rintro e w' ⟨rfl,rfl⟩)
  go_quiet (first|(go_at_call 127;with_reducible refine Calls.quiet_of_same (W3.out _)))
  all_goals
   go_wp2_with fail
   go_ret
   exact ⟨ret_int R.out.symm,byB⟩
 cases b4:inB 0 released 100000
 ·have R:=zH (show jobErr c dom ⟨m,number,released,used,ran,missed⟩=3 by rw [R1.out,b3,b4];rfl)
  have W3:=zH (fun W=>(readyWithin number 0 100000 W).mono fun e w' h=>(⟨by rw [h.1,b3],h.2.symm⟩:e= .returned (.bool _)∧w'=W))
  have W4:=zH (fun W=>(readyWithin released 0 100000 W).mono fun e w' h=>(⟨by rw [h.1,b4],h.2.symm⟩:e= .returned (.bool _)∧w'=W))
  clear b3 b4
  go_enter Try.func94,Try.ntmps94
  go_wp2_with (go_at_call 127;refine (readyWithin _ _ _ _).mono ?_;rintro e w' ⟨rfl,rfl⟩)
  go_quiet (first|(go_at_call 127;with_reducible refine Calls.quiet_of_same (W3.out _))|(go_at_call 127;with_reducible refine Calls.quiet_of_same (W4.out _)))
  all_goals
   go_wp2_with fail
   go_ret
   exact ⟨ret_int R.out.symm,byB⟩
 cases b5:inB 0 used ((nth c.tasks m).budget - 1)
 ·have R:=zH (show jobErr c dom ⟨m,number,released,used,ran,missed⟩=3 by rw [R1.out,b3,b4,b5];rfl)
  have W3:=zH (fun W=>(readyWithin number 0 100000 W).mono fun e w' h=>(⟨by rw [h.1,b3],h.2.symm⟩:e= .returned (.bool _)∧w'=W))
  have W4:=zH (fun W=>(readyWithin released 0 100000 W).mono fun e w' h=>(⟨by rw [h.1,b4],h.2.symm⟩:e= .returned (.bool _)∧w'=W))
  have W5:=zH (fun W=>(readyWithin used 0 ((nth c.tasks m).budget - 1) W).mono fun e w' h=>(⟨by rw [h.1,b5],h.2.symm⟩:e= .returned (.bool _)∧w'=W))
  clear b3 b4 b5
  go_enter Try.func94,Try.ntmps94
  go_wp2_with (go_at_call 127;refine (readyWithin _ _ _ _).mono ?_;rintro e w' ⟨rfl,rfl⟩)
  go_quiet (first|(go_at_call 127;with_reducible refine Calls.quiet_of_same (W3.out _))|(go_at_call 127;with_reducible refine Calls.quiet_of_same (W4.out _))|(go_at_call 127;with_reducible refine Calls.quiet_of_same (W5.out _)))
  all_goals
   go_wp2_with fail
   go_ret
   exact ⟨ret_int R.out.symm,byB⟩
 have R:=zH (show jobErr c dom ⟨m,number,released,used,ran,missed⟩=0 by rw [R1.out,b3,b4,b5];rfl)
 have W3:=zH (fun W=>(readyWithin number 0 100000 W).mono fun e w' h=>(⟨by rw [h.1,b3],h.2.symm⟩:e= .returned (.bool _)∧w'=W))
 have W4:=zH (fun W=>(readyWithin released 0 100000 W).mono fun e w' h=>(⟨by rw [h.1,b4],h.2.symm⟩:e= .returned (.bool _)∧w'=W))
 have W5:=zH (fun W=>(readyWithin used 0 ((nth c.tasks m).budget - 1) W).mono fun e w' h=>(⟨by rw [h.1,b5],h.2.symm⟩:e= .returned (.bool _)∧w'=W))
 clear b3 b4 b5
 go_enter Try.func94,Try.ntmps94
 go_wp2_with (go_at_call 127;refine (readyWithin _ _ _ _).mono ?_;rintro e w' ⟨rfl,rfl⟩)
 go_quiet (first|(go_at_call 127;with_reducible refine Calls.quiet_of_same (W3.out _))|(go_at_call 127;with_reducible refine Calls.quiet_of_same (W4.out _))|(go_at_call 127;with_reducible refine Calls.quiet_of_same (W5.out _)))
 all_goals
  go_wp2_with fail
  go_ret
  exact ⟨ret_int R.out.symm,byB⟩
end Go.Proofs.Ytinlmkhlgclbfab
