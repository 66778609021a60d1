/- WinA CacheN -/
import Derived.Test.YtinlmkhlgclbfabDoorAs10
namespace Go.Proofs.YtinlmkhlgclbfabDoor
open Go.RowKit
section
set_option maxRecDepth 100000
set_option maxHeartbeats 4000000
theorem windowWithin (n a b:Int)(w:World):
  Calls Tryd.prog 59 #[.int .i64 n,.int .i64 a,.int .i64 b] w fun e w'=>e= .returned (.bool (inB a n b))∧w=w':=by
 go_enter Tryd.func59,Tryd.ntmps59
 go_wp2
 all_goals go_ret
 all_goals (unfold inB;simp [*]<;>omega)
theorem windowRight_1a (n v:Int)(w:World)(h1:inB 1 n 200=false):
  Calls Tryd.prog 48 #[.agg #[.int .i64 1,.int .i64 n,.int .i64 v]] w fun e w'=>e= .returned (.int .i64 (actErr ⟨1,n,v⟩))∧Below w.heap.size w w':=by
 have R:actErr ⟨1,n,v⟩=3:=by simp [actErr,actN,h1];decide
 rw [R]
 clear R
 have H0:=fun W=>windowWithin 1 1 8 W
 rw [show inB 1 1 8=true by decide] at H0
 replace H0:=zH H0
 have H1:=fun W=>windowWithin n 1 200 W
 rw [h1] at H1
 replace H1:=zH H1
 go_enter Tryd.func48,Tryd.ntmps48
 go_wp2_with fail
 go_at_call 59
 refine (H0.out _).mono ?_
 rintro e w1 ⟨rfl,rfl⟩
 go_wp2_with fail
 go_at_call 59
 refine (H1.out _).mono ?_
 rintro e w1 ⟨rfl,rfl⟩
 go_wp2_with fail
 go_ret
 exact ⟨rfl,byB⟩
theorem windowRight_1b (n v:Int)(w:World)(h1:inB 1 n 200=true)(hv:v≠0):
  Calls Tryd.prog 48 #[.agg #[.int .i64 1,.int .i64 n,.int .i64 v]] w fun e w'=>e= .returned (.int .i64 (actErr ⟨1,n,v⟩))∧Below w.heap.size w w':=by
 have R:actErr ⟨1,n,v⟩=1:=by simp [actErr,actN,h1,hv];decide
 rw [R]
 clear R
 have H0:=fun W=>windowWithin 1 1 8 W
 rw [show inB 1 1 8=true by decide] at H0
 replace H0:=zH H0
 have H1:=fun W=>windowWithin n 1 200 W
 rw [h1] at H1
 replace H1:=zH H1
 have v1:(v !=0)=true:=by simp [hv]
 go_enter Tryd.func48,Tryd.ntmps48
 go_wp2_with fail
 go_at_call 59
 refine (H0.out _).mono ?_
 rintro e w1 ⟨rfl,rfl⟩
 go_wp2_with fail
 go_at_call 59
 refine (H1.out _).mono ?_
 rintro e w1 ⟨rfl,rfl⟩
 go_wp2_with fail
 go_ret
 exact ⟨rfl,byB⟩
theorem windowRight_1c (n v:Int)(w:World)(h1:inB 1 n 200=true)(hv:v=0):
  Calls Tryd.prog 48 #[.agg #[.int .i64 1,.int .i64 n,.int .i64 v]] w fun e w'=>e= .returned (.int .i64 (actErr ⟨1,n,v⟩))∧Below w.heap.size w w':=by
 have R:actErr ⟨1,n,v⟩=0:=by simp [actErr,actN,h1,hv];decide
 rw [R]
 clear R
 have H0:=fun W=>windowWithin 1 1 8 W
 rw [show inB 1 1 8=true by decide] at H0
 replace H0:=zH H0
 have H1:=fun W=>windowWithin n 1 200 W
 rw [h1] at H1
 replace H1:=zH H1
 have v1:(v !=0)=false:=by simp [hv]
 go_enter Tryd.func48,Tryd.ntmps48
 go_wp2_with fail
 go_at_call 59
 refine (H0.out _).mono ?_
 rintro e w1 ⟨rfl,rfl⟩
 go_wp2_with fail
 go_at_call 59
 refine (H1.out _).mono ?_
 rintro e w1 ⟨rfl,rfl⟩
 go_wp2_with fail
 go_ret
 exact ⟨rfl,byB⟩
theorem windowRight_2a (n v:Int)(w:World)(h1:inB 1 n 1000=false):
  Calls Tryd.prog 48 #[.agg #[.int .i64 2,.int .i64 n,.int .i64 v]] w fun e w'=>e= .returned (.int .i64 (actErr ⟨2,n,v⟩))∧Below w.heap.size w w':=by
 have R:actErr ⟨2,n,v⟩=3:=by simp [actErr,actN,h1];decide
 rw [R]
 clear R
 have H0:=fun W=>windowWithin 2 1 8 W
 rw [show inB 1 2 8=true by decide] at H0
 replace H0:=zH H0
 have H1:=fun W=>windowWithin n 1 1000 W
 rw [h1] at H1
 replace H1:=zH H1
 go_enter Tryd.func48,Tryd.ntmps48
 go_wp2_with fail
 go_at_call 59
 refine (H0.out _).mono ?_
 rintro e w1 ⟨rfl,rfl⟩
 go_wp2_with fail
 go_at_call 59
 refine (H1.out _).mono ?_
 rintro e w1 ⟨rfl,rfl⟩
 go_wp2_with fail
 go_ret
 exact ⟨rfl,byB⟩
theorem windowRight_2b (n v:Int)(w:World)(h1:inB 1 n 1000=true)(hv:v≠0):
  Calls Tryd.prog 48 #[.agg #[.int .i64 2,.int .i64 n,.int .i64 v]] w fun e w'=>e= .returned (.int .i64 (actErr ⟨2,n,v⟩))∧Below w.heap.size w w':=by
 have R:actErr ⟨2,n,v⟩=1:=by simp [actErr,actN,h1,hv];decide
 rw [R]
 clear R
 have H0:=fun W=>windowWithin 2 1 8 W
 rw [show inB 1 2 8=true by decide] at H0
 replace H0:=zH H0
 have H1:=fun W=>windowWithin n 1 1000 W
 rw [h1] at H1
 replace H1:=zH H1
 have v1:(v !=0)=true:=by simp [hv]
 go_enter Tryd.func48,Tryd.ntmps48
 go_wp2_with fail
 go_at_call 59
 refine (H0.out _).mono ?_
 rintro e w1 ⟨rfl,rfl⟩
 go_wp2_with fail
 go_at_call 59
 refine (H1.out _).mono ?_
 rintro e w1 ⟨rfl,rfl⟩
 go_wp2_with fail
 go_ret
 exact ⟨rfl,byB⟩
theorem windowRight_2c (n v:Int)(w:World)(h1:inB 1 n 1000=true)(hv:v=0):
  Calls Tryd.prog 48 #[.agg #[.int .i64 2,.int .i64 n,.int .i64 v]] w fun e w'=>e= .returned (.int .i64 (actErr ⟨2,n,v⟩))∧Below w.heap.size w w':=by
 have R:actErr ⟨2,n,v⟩=0:=by simp [actErr,actN,h1,hv];decide
 rw [R]
 clear R
 have H0:=fun W=>windowWithin 2 1 8 W
 rw [show inB 1 2 8=true by decide] at H0
 replace H0:=zH H0
 have H1:=fun W=>windowWithin n 1 1000 W
 rw [h1] at H1
 replace H1:=zH H1
 have v1:(v !=0)=false:=by simp [hv]
 go_enter Tryd.func48,Tryd.ntmps48
 go_wp2_with fail
 go_at_call 59
 refine (H0.out _).mono ?_
 rintro e w1 ⟨rfl,rfl⟩
 go_wp2_with fail
 go_at_call 59
 refine (H1.out _).mono ?_
 rintro e w1 ⟨rfl,rfl⟩
 go_wp2_with fail
 go_ret
 exact ⟨rfl,byB⟩
theorem windowRight_3a (n v:Int)(w:World)(h1:inB 1 n 1000=false):
  Calls Tryd.prog 48 #[.agg #[.int .i64 3,.int .i64 n,.int .i64 v]] w fun e w'=>e= .returned (.int .i64 (actErr ⟨3,n,v⟩))∧Below w.heap.size w w':=by
 have R:actErr ⟨3,n,v⟩=3:=by simp [actErr,actN,h1];decide
 rw [R]
 clear R
 have H0:=fun W=>windowWithin 3 1 8 W
 rw [show inB 1 3 8=true by decide] at H0
 replace H0:=zH H0
 have H1:=fun W=>windowWithin n 1 1000 W
 rw [h1] at H1
 replace H1:=zH H1
 go_enter Tryd.func48,Tryd.ntmps48
 go_wp2_with fail
 go_at_call 59
 refine (H0.out _).mono ?_
 rintro e w1 ⟨rfl,rfl⟩
 go_wp2_with fail
 go_at_call 59
 refine (H1.out _).mono ?_
 rintro e w1 ⟨rfl,rfl⟩
 go_wp2_with fail
 go_ret
 exact ⟨rfl,byB⟩
theorem windowRight_3b (n v:Int)(w:World)(h1:inB 1 n 1000=true)(hv:v≠0):
  Calls Tryd.prog 48 #[.agg #[.int .i64 3,.int .i64 n,.int .i64 v]] w fun e w'=>e= .returned (.int .i64 (actErr ⟨3,n,v⟩))∧Below w.heap.size w w':=by
 have R:actErr ⟨3,n,v⟩=1:=by simp [actErr,actN,h1,hv];decide
 rw [R]
 clear R
 have H0:=fun W=>windowWithin 3 1 8 W
 rw [show inB 1 3 8=true by decide] at H0
 replace H0:=zH H0
 have H1:=fun W=>windowWithin n 1 1000 W
 rw [h1] at H1
 replace H1:=zH H1
 have v1:(v !=0)=true:=by simp [hv]
 go_enter Tryd.func48,Tryd.ntmps48
 go_wp2_with fail
 go_at_call 59
 refine (H0.out _).mono ?_
 rintro e w1 ⟨rfl,rfl⟩
 go_wp2_with fail
 go_at_call 59
 refine (H1.out _).mono ?_
 rintro e w1 ⟨rfl,rfl⟩
 go_wp2_with fail
 go_ret
 exact ⟨rfl,byB⟩
theorem windowRight_3c (n v:Int)(w:World)(h1:inB 1 n 1000=true)(hv:v=0):
  Calls Tryd.prog 48 #[.agg #[.int .i64 3,.int .i64 n,.int .i64 v]] w fun e w'=>e= .returned (.int .i64 (actErr ⟨3,n,v⟩))∧Below w.heap.size w w':=by
 have R:actErr ⟨3,n,v⟩=0:=by simp [actErr,actN,h1,hv];decide
 rw [R]
 clear R
 have H0:=fun W=>windowWithin 3 1 8 W
 rw [show inB 1 3 8=true by decide] at H0
 replace H0:=zH H0
 have H1:=fun W=>windowWithin n 1 1000 W
 rw [h1] at H1
 replace H1:=zH H1
 have v1:(v !=0)=false:=by simp [hv]
 go_enter Tryd.func48,Tryd.ntmps48
 go_wp2_with fail
 go_at_call 59
 refine (H0.out _).mono ?_
 rintro e w1 ⟨rfl,rfl⟩
 go_wp2_with fail
 go_at_call 59
 refine (H1.out _).mono ?_
 rintro e w1 ⟨rfl,rfl⟩
 go_wp2_with fail
 go_ret
 exact ⟨rfl,byB⟩
theorem windowRight_4a (n v:Int)(w:World)(hn:¬ 0≤n):
  Calls Tryd.prog 48 #[.agg #[.int .i64 4,.int .i64 n,.int .i64 v]] w fun e w'=>e= .returned (.int .i64 (actErr ⟨4,n,v⟩))∧Below w.heap.size w w':=by
 have R:actErr ⟨4,n,v⟩=3:=by simp [actErr,actN,hn];decide
 rw [R]
 clear R
 have H0:=fun W=>windowWithin 4 1 8 W
 rw [show inB 1 4 8=true by decide] at H0
 replace H0:=zH H0
 have n1:decide (n≥0)=false:=by simpa using hn
 go_enter Tryd.func48,Tryd.ntmps48
 go_wp2_with fail
 go_at_call 59
 refine (H0.out _).mono ?_
 rintro e w1 ⟨rfl,rfl⟩
 go_wp2_with fail
 go_ret
 exact ⟨rfl,byB⟩
theorem windowRight_4b (n v:Int)(w:World)(hn:0≤n)(h1:inB 0 v 255=false):
  Calls Tryd.prog 48 #[.agg #[.int .i64 4,.int .i64 n,.int .i64 v]] w fun e w'=>e= .returned (.int .i64 (actErr ⟨4,n,v⟩))∧Below w.heap.size w w':=by
 have R:actErr ⟨4,n,v⟩=3:=by simp [actErr,actN,hn,h1];decide
 rw [R]
 clear R
 have H0:=fun W=>windowWithin 4 1 8 W
 rw [show inB 1 4 8=true by decide] at H0
 replace H0:=zH H0
 have H1:=fun W=>windowWithin v 0 255 W
 rw [h1] at H1
 replace H1:=zH H1
 have n1:decide (n≥0)=true:=by simpa using hn
 go_enter Tryd.func48,Tryd.ntmps48
 go_wp2_with fail
 go_at_call 59
 refine (H0.out _).mono ?_
 rintro e w1 ⟨rfl,rfl⟩
 go_wp2_with fail
 go_at_call 59
 refine (H1.out _).mono ?_
 rintro e w1 ⟨rfl,rfl⟩
 go_wp2_with fail
 go_ret
 exact ⟨rfl,byB⟩
theorem windowRight_4c (n v:Int)(w:World)(hn:0≤n)(h1:inB 0 v 255=true):
  Calls Tryd.prog 48 #[.agg #[.int .i64 4,.int .i64 n,.int .i64 v]] w fun e w'=>e= .returned (.int .i64 (actErr ⟨4,n,v⟩))∧Below w.heap.size w w':=by
 have R:actErr ⟨4,n,v⟩=0:=by simp [actErr,actN,hn,h1];decide
 rw [R]
 clear R
 have H0:=fun W=>windowWithin 4 1 8 W
 rw [show inB 1 4 8=true by decide] at H0
 replace H0:=zH H0
 have H1:=fun W=>windowWithin v 0 255 W
 rw [h1] at H1
 replace H1:=zH H1
 have n1:decide (n≥0)=true:=by simpa using hn
 go_enter Tryd.func48,Tryd.ntmps48
 go_wp2_with fail
 go_at_call 59
 refine (H0.out _).mono ?_
 rintro e w1 ⟨rfl,rfl⟩
 go_wp2_with fail
 go_at_call 59
 refine (H1.out _).mono ?_
 rintro e w1 ⟨rfl,rfl⟩
 go_wp2_with fail
 go_ret
 exact ⟨rfl,byB⟩
theorem windowRight_5a (n v:Int)(w:World)(hn:¬ 0≤n):
  Calls Tryd.prog 48 #[.agg #[.int .i64 5,.int .i64 n,.int .i64 v]] w fun e w'=>e= .returned (.int .i64 (actErr ⟨5,n,v⟩))∧Below w.heap.size w w':=by
 have R:actErr ⟨5,n,v⟩=3:=by simp [actErr,actN,hn];decide
 rw [R]
 clear R
 have H0:=fun W=>windowWithin 5 1 8 W
 rw [show inB 1 5 8=true by decide] at H0
 replace H0:=zH H0
 have n1:decide (n≥0)=false:=by simpa using hn
 go_enter Tryd.func48,Tryd.ntmps48
 go_wp2_with fail
 go_at_call 59
 refine (H0.out _).mono ?_
 rintro e w1 ⟨rfl,rfl⟩
 go_wp2_with fail
 go_ret
 exact ⟨rfl,byB⟩
theorem windowRight_5b (n v:Int)(w:World)(hn:0≤n)(hv:v≠0):
  Calls Tryd.prog 48 #[.agg #[.int .i64 5,.int .i64 n,.int .i64 v]] w fun e w'=>e= .returned (.int .i64 (actErr ⟨5,n,v⟩))∧Below w.heap.size w w':=by
 have R:actErr ⟨5,n,v⟩=1:=by simp [actErr,actN,hn,hv];decide
 rw [R]
 clear R
 have H0:=fun W=>windowWithin 5 1 8 W
 rw [show inB 1 5 8=true by decide] at H0
 replace H0:=zH H0
 have n1:decide (n≥0)=true:=by simpa using hn
 have v1:(v !=0)=true:=by simp [hv]
 go_enter Tryd.func48,Tryd.ntmps48
 go_wp2_with fail
 go_at_call 59
 refine (H0.out _).mono ?_
 rintro e w1 ⟨rfl,rfl⟩
 go_wp2_with fail
 go_ret
 exact ⟨rfl,byB⟩
theorem windowRight_5c (n v:Int)(w:World)(hn:0≤n)(hv:v=0):
  Calls Tryd.prog 48 #[.agg #[.int .i64 5,.int .i64 n,.int .i64 v]] w fun e w'=>e= .returned (.int .i64 (actErr ⟨5,n,v⟩))∧Below w.heap.size w w':=by
 have R:actErr ⟨5,n,v⟩=0:=by simp [actErr,actN,hn,hv];decide
 rw [R]
 clear R
 have H0:=fun W=>windowWithin 5 1 8 W
 rw [show inB 1 5 8=true by decide] at H0
 replace H0:=zH H0
 have n1:decide (n≥0)=true:=by simpa using hn
 have v1:(v !=0)=false:=by simp [hv]
 go_enter Tryd.func48,Tryd.ntmps48
 go_wp2_with fail
 go_at_call 59
 refine (H0.out _).mono ?_
 rintro e w1 ⟨rfl,rfl⟩
 go_wp2_with fail
 go_ret
 exact ⟨rfl,byB⟩
theorem windowRight_7a (n v:Int)(w:World)(hn:¬ 0≤n):
  Calls Tryd.prog 48 #[.agg #[.int .i64 7,.int .i64 n,.int .i64 v]] w fun e w'=>e= .returned (.int .i64 (actErr ⟨7,n,v⟩))∧Below w.heap.size w w':=by
 have R:actErr ⟨7,n,v⟩=3:=by simp [actErr,actN,hn];decide
 rw [R]
 clear R
 have H0:=fun W=>windowWithin 7 1 8 W
 rw [show inB 1 7 8=true by decide] at H0
 replace H0:=zH H0
 have n1:decide (n≥0)=false:=by simpa using hn
 go_enter Tryd.func48,Tryd.ntmps48
 go_wp2_with fail
 go_at_call 59
 refine (H0.out _).mono ?_
 rintro e w1 ⟨rfl,rfl⟩
 go_wp2_with fail
 go_ret
 exact ⟨rfl,byB⟩
theorem windowRight_7b (n v:Int)(w:World)(hn:0≤n)(hv:v≠0):
  Calls Tryd.prog 48 #[.agg #[.int .i64 7,.int .i64 n,.int .i64 v]] w fun e w'=>e= .returned (.int .i64 (actErr ⟨7,n,v⟩))∧Below w.heap.size w w':=by
 have R:actErr ⟨7,n,v⟩=1:=by simp [actErr,actN,hn,hv];decide
 rw [R]
 clear R
 have H0:=fun W=>windowWithin 7 1 8 W
 rw [show inB 1 7 8=true by decide] at H0
 replace H0:=zH H0
 have n1:decide (n≥0)=true:=by simpa using hn
 have v1:(v !=0)=true:=by simp [hv]
 go_enter Tryd.func48,Tryd.ntmps48
 go_wp2_with fail
 go_at_call 59
 refine (H0.out _).mono ?_
 rintro e w1 ⟨rfl,rfl⟩
 go_wp2_with fail
 go_ret
 exact ⟨rfl,byB⟩
theorem windowRight_7c (n v:Int)(w:World)(hn:0≤n)(hv:v=0):
  Calls Tryd.prog 48 #[.agg #[.int .i64 7,.int .i64 n,.int .i64 v]] w fun e w'=>e= .returned (.int .i64 (actErr ⟨7,n,v⟩))∧Below w.heap.size w w':=by
 have R:actErr ⟨7,n,v⟩=0:=by simp [actErr,actN,hn,hv];decide
 rw [R]
 clear R
 have H0:=fun W=>windowWithin 7 1 8 W
 rw [show inB 1 7 8=true by decide] at H0
 replace H0:=zH H0
 have n1:decide (n≥0)=true:=by simpa using hn
 have v1:(v !=0)=false:=by simp [hv]
 go_enter Tryd.func48,Tryd.ntmps48
 go_wp2_with fail
 go_at_call 59
 refine (H0.out _).mono ?_
 rintro e w1 ⟨rfl,rfl⟩
 go_wp2_with fail
 go_ret
 exact ⟨rfl,byB⟩
theorem windowRight_6a (n v:Int)(w:World)(hv:v≠0):
  Calls Tryd.prog 48 #[.agg #[.int .i64 6,.int .i64 n,.int .i64 v]] w fun e w'=>e= .returned (.int .i64 (actErr ⟨6,n,v⟩))∧Below w.heap.size w w':=by
 have R:actErr ⟨6,n,v⟩=1:=by simp [actErr,actN,hv];decide
 rw [R]
 clear R
 have H0:=fun W=>windowWithin 6 1 8 W
 rw [show inB 1 6 8=true by decide] at H0
 replace H0:=zH H0
 have v1:(v !=0)=true:=by simp [hv]
 go_enter Tryd.func48,Tryd.ntmps48
 go_wp2_with fail
 go_at_call 59
 refine (H0.out _).mono ?_
 rintro e w1 ⟨rfl,rfl⟩
 go_wp2_with fail
 go_ret
 exact ⟨rfl,byB⟩
theorem windowRight_6b (n v:Int)(w:World)(hv:v=0)(hn:n≠0):
  Calls Tryd.prog 48 #[.agg #[.int .i64 6,.int .i64 n,.int .i64 v]] w fun e w'=>e= .returned (.int .i64 (actErr ⟨6,n,v⟩))∧Below w.heap.size w w':=by
 have R:actErr ⟨6,n,v⟩=1:=by simp [actErr,actN,hn,hv];decide
 rw [R]
 clear R
 have H0:=fun W=>windowWithin 6 1 8 W
 rw [show inB 1 6 8=true by decide] at H0
 replace H0:=zH H0
 have v1:(v !=0)=false:=by simp [hv]
 have n1:(n !=0)=true:=by simp [hn]
 go_enter Tryd.func48,Tryd.ntmps48
 go_wp2_with fail
 go_at_call 59
 refine (H0.out _).mono ?_
 rintro e w1 ⟨rfl,rfl⟩
 go_wp2_with fail
 go_ret
 exact ⟨rfl,byB⟩
theorem windowRight_6c (n v:Int)(w:World)(hv:v=0)(hn:n=0):
  Calls Tryd.prog 48 #[.agg #[.int .i64 6,.int .i64 n,.int .i64 v]] w fun e w'=>e= .returned (.int .i64 (actErr ⟨6,n,v⟩))∧Below w.heap.size w w':=by
 have R:actErr ⟨6,n,v⟩=0:=by simp [actErr,actN,hn,hv];decide
 rw [R]
 clear R
 have H0:=fun W=>windowWithin 6 1 8 W
 rw [show inB 1 6 8=true by decide] at H0
 replace H0:=zH H0
 have v1:(v !=0)=false:=by simp [hv]
 have n1:(n !=0)=false:=by simp [hn]
 go_enter Tryd.func48,Tryd.ntmps48
 go_wp2_with fail
 go_at_call 59
 refine (H0.out _).mono ?_
 rintro e w1 ⟨rfl,rfl⟩
 go_wp2_with fail
 go_ret
 exact ⟨rfl,byB⟩
theorem windowRight_8a (n v:Int)(w:World)(hv:v≠0):
  Calls Tryd.prog 48 #[.agg #[.int .i64 8,.int .i64 n,.int .i64 v]] w fun e w'=>e= .returned (.int .i64 (actErr ⟨8,n,v⟩))∧Below w.heap.size w w':=by
 have R:actErr ⟨8,n,v⟩=1:=by simp [actErr,actN,hv];decide
 rw [R]
 clear R
 have H0:=fun W=>windowWithin 8 1 8 W
 rw [show inB 1 8 8=true by decide] at H0
 replace H0:=zH H0
 have v1:(v !=0)=true:=by simp [hv]
 go_enter Tryd.func48,Tryd.ntmps48
 go_wp2_with fail
 go_at_call 59
 refine (H0.out _).mono ?_
 rintro e w1 ⟨rfl,rfl⟩
 go_wp2_with fail
 go_ret
 exact ⟨rfl,byB⟩
theorem windowRight_8b (n v:Int)(w:World)(hv:v=0)(hn:n≠0):
  Calls Tryd.prog 48 #[.agg #[.int .i64 8,.int .i64 n,.int .i64 v]] w fun e w'=>e= .returned (.int .i64 (actErr ⟨8,n,v⟩))∧Below w.heap.size w w':=by
 have R:actErr ⟨8,n,v⟩=1:=by simp [actErr,actN,hn,hv];decide
 rw [R]
 clear R
 have H0:=fun W=>windowWithin 8 1 8 W
 rw [show inB 1 8 8=true by decide] at H0
 replace H0:=zH H0
 have v1:(v !=0)=false:=by simp [hv]
 have n1:(n !=0)=true:=by simp [hn]
 go_enter Tryd.func48,Tryd.ntmps48
 go_wp2_with fail
 go_at_call 59
 refine (H0.out _).mono ?_
 rintro e w1 ⟨rfl,rfl⟩
 go_wp2_with fail
 go_ret
 exact ⟨rfl,byB⟩
theorem windowRight_8c (n v:Int)(w:World)(hv:v=0)(hn:n=0):
  Calls Tryd.prog 48 #[.agg #[.int .i64 8,.int .i64 n,.int .i64 v]] w fun e w'=>e= .returned (.int .i64 (actErr ⟨8,n,v⟩))∧Below w.heap.size w w':=by
 have R:actErr ⟨8,n,v⟩=0:=by simp [actErr,actN,hn,hv];decide
 rw [R]
 clear R
 have H0:=fun W=>windowWithin 8 1 8 W
 rw [show inB 1 8 8=true by decide] at H0
 replace H0:=zH H0
 have v1:(v !=0)=false:=by simp [hv]
 have n1:(n !=0)=false:=by simp [hn]
 go_enter Tryd.func48,Tryd.ntmps48
 go_wp2_with fail
 go_at_call 59
 refine (H0.out _).mono ?_
 rintro e w1 ⟨rfl,rfl⟩
 go_wp2_with fail
 go_ret
 exact ⟨rfl,byB⟩
theorem windowRight (a:TAct)(w:World):
  Calls Tryd.prog 48 #[.agg #[.int .i64 a.kind,.int .i64 a.n,.int .i64 a.value]] w fun e w'=>e= .returned (.int .i64 (actErr a))∧Below w.heap.size w w':=by
 obtain ⟨k,n,v⟩:=a
 dsimp only
 by_cases h:inB 1 k 8=true
 ·have hk:=inB_true.1 h
  have:k=1∨k=2∨k=3∨k=4∨k=5∨k=6∨k=7∨k=8:=by omega
  rcases this with rfl|rfl|rfl|rfl|rfl|rfl|rfl|rfl
  ·cases h1:inB 1 n 200
   ·exact windowRight_1a n v w h1
   ·by_cases hv:v=0
    ·exact windowRight_1c n v w h1 hv
    ·exact windowRight_1b n v w h1 hv
  ·cases h1:inB 1 n 1000
   ·exact windowRight_2a n v w h1
   ·by_cases hv:v=0
    ·exact windowRight_2c n v w h1 hv
    ·exact windowRight_2b n v w h1 hv
  ·cases h1:inB 1 n 1000
   ·exact windowRight_3a n v w h1
   ·by_cases hv:v=0
    ·exact windowRight_3c n v w h1 hv
    ·exact windowRight_3b n v w h1 hv
  ·by_cases hn:0≤n
   ·cases h1:inB 0 v 255
    ·exact windowRight_4b n v w hn h1
    ·exact windowRight_4c n v w hn h1
   ·exact windowRight_4a n v w hn
  ·by_cases hn:0≤n
   ·by_cases hv:v=0
    ·exact windowRight_5c n v w hn hv
    ·exact windowRight_5b n v w hn hv
   ·exact windowRight_5a n v w hn
  ·by_cases hv:v=0
   ·by_cases hn:n=0
    ·exact windowRight_6c n v w hv hn
    ·exact windowRight_6b n v w hv hn
   ·exact windowRight_6a n v w hv
  ·by_cases hn:0≤n
   ·by_cases hv:v=0
    ·exact windowRight_7c n v w hn hv
    ·exact windowRight_7b n v w hn hv
   ·exact windowRight_7a n v w hn
  ·by_cases hv:v=0
   ·by_cases hn:n=0
    ·exact windowRight_8c n v w hv hn
    ·exact windowRight_8b n v w hv hn
   ·exact windowRight_8a n v w hv
 ·have h:inB 1 k 8=false:=by simpa using h
  have R:actErr ⟨k,n,v⟩=7:=by simp [actErr,h]
  rw [R]
  have H0:=fun W=>windowWithin k 1 8 W
  rw [h] at H0
  replace H0:=zH H0
  clear R h
  go_enter Tryd.func48,Tryd.ntmps48
  go_wp2_with fail
  go_at_call 59
  refine (H0.out _).mono ?_
  rintro e w1 ⟨rfl,rfl⟩
  go_wp2_with fail
  go_ret
  exact ⟨rfl,byB⟩
theorem windowWorst (a:TAct)(w:World):
  Calls Tryd.prog 72 #[.agg #[.int .i64 a.kind,.int .i64 a.n,.int .i64 a.value]] w fun e w'=>e= .returned (.int .i64 (worstA a))∧Below w.heap.size w w':=by
 obtain ⟨k,n,v⟩:=a
 unfold worstA
 dsimp only
 by_cases h1:k=1
 ·rw [if_pos h1]
  have b1:(k==1)=true:=by simp [h1]
  clear h1
  go_enter Tryd.func72,Tryd.ntmps72
  go_wp2_with fail
  go_ret
  exact ⟨rfl,byB⟩
 ·have b1:(k==1)=false:=by simp [h1]
  rw [if_neg h1]
  clear h1
  by_cases h2:k=2
  ·rw [if_pos (.inl h2)]
   have b2:(k==2)=true:=by simp [h2]
   clear h2
   go_enter Tryd.func72,Tryd.ntmps72
   go_wp2_with fail
   go_ret
   exact ⟨rfl,byB⟩
  ·have b2:(k==2)=false:=by simp [h2]
   by_cases h3:k=3
   ·rw [if_pos (.inr h3)]
    have b3:(k==3)=true:=by simp [h3]
    clear h2 h3
    go_enter Tryd.func72,Tryd.ntmps72
    go_wp2_with fail
    go_ret
    exact ⟨rfl,byB⟩
   ·rw [if_neg (by omega)]
    have b3:(k==3)=false:=by simp [h3]
    clear h2 h3
    go_enter Tryd.func72,Tryd.ntmps72
    go_wp2_with fail
    go_ret
    exact ⟨rfl,byB⟩
theorem windowActions (l:List TAct)(A:Option Addr)(n:Nat)(B:Nat)(w:World)(hB:B≤w.heap.size)(hl:Sl cAct (Low B) w A n l):
  Calls Tryd.prog 31 #[.slice A l.length n] w fun e w'=>e= .returned (.int .i64 (actsErr l))∧Below w.heap.size w w':=by
 have ml:=Nat.le_trans hl.cap hl.max
 unfold maxLen at ml
 by_cases h60:60 < l.length
 ·have R:actsErr l=2:=by unfold actsErr;rw [if_pos h60]
  rw [R]
  have b1:decide (l.length > 60)=true:=by simpa using h60
  clear R hl
  go_enter Tryd.func31,Tryd.ntmps31
  go_wp2_with fail
  go_ret
  exact ⟨rfl,byB⟩
 ·have R:actsErr l=firstE l.length fun i=>actErr (nth l i):=by unfold actsErr;rw [if_neg h60]
  rw [R]
  have b1:decide (l.length > 60)=false:=by simpa using h60
  have HH:=zH (fun k (hk:k < l.length) (h0:∀j,j < k→actErr (nth l j)=0) (h1:actErr (nth l k)≠0)=>(firstE_hit hk h0 h1:firstE l.length (fun i=>actErr (nth l i))=actErr (nth l k)))
  have HZ:=zH (fun (h0:∀j,j < l.length→actErr (nth l j)=0)=>(firstE_none h0:firstE l.length (fun i=>actErr (nth l i))=0))
  have HL:=zH hl
  clear R hl
  go_enter Tryd.func31,Tryd.ntmps31
  go_wp2_with fail
  go_loopw [11] (fun iv wr=>∃i:Nat,i≤l.length∧iv= .int .i64 i∧Hid (∀j,j < i→actErr (nth l j)=0)∧Below w.heap.size w wr) (fun iv _=>l.length - (intOf iv).toNat)
  case atStart=>exact ⟨0,Nat.zero_le _,rfl,zH (fun j hj=>by omega),byB⟩
  case round=>
   obtain ⟨i,hi,rfl,hq,hbr⟩:=hrel
   have so:=hbr.size
   by_cases hlt:i < l.length
   ·have hi0:(0:Int)≤i:=by omega
    have hi1:(i:Int) < l.length:=by omega
    obtain ⟨b,o,rfl,hI,a0,a1,a2⟩:=(HL.out.next hB hbr).at_act hlt
    have hI:=Nat.lt_of_lt_of_le hI hB
    have hbl:b < wr.heap.size:=by omega
    have H1:=zH (fun W=>windowRight (nth l i) W)
    by_cases e1:actErr (nth l i)=0
    ·have hq2:Hid (∀j,j < i+1→actErr (nth l j)=0):=zH (fun j hj=>by
      by_cases e:j=i
      ·subst e;exact e1
      ·exact hq.out j (by omega))
     rw [e1] at H1
     clear e1 hq HH HZ
     go_wp2_with fail
     (go_at_call 48;refine (H1.out _).mono ?_;rintro e w1 ⟨rfl,hb_w1⟩;refine armT w hb_w1 (fun h_w1 s_w1 t_w1 hb_w1=>?_);(try simp at t_w1))
     go_wp2_with fail
     exact ⟨⟨i+1,by omega,by go_num,hq2,byB⟩,by simp [intOf];omega⟩
    ·have R:=HH.out i hlt hq.out e1
     have b2:(actErr (nth l i) !=0)=true:=by simp [e1]
     replace R:=zH R
     clear e1 hq HH HZ
     generalize actErr (nth l i)=AE at*
     go_wp2_with fail
     (go_at_call 48;refine (H1.out _).mono ?_;rintro e w1 ⟨rfl,hb_w1⟩;refine armT w hb_w1 (fun h_w1 s_w1 t_w1 hb_w1=>?_);(try simp at t_w1))
     go_wp2_with fail
     go_ret
     exact ⟨ret_int R.out.symm,byB⟩
   ·obtain rfl:i=l.length:=by omega
    have R:=zH (HZ.out hq.out)
    clear HH HZ hq
    go_wp2_with fail
    go_ret
    exact ⟨ret_int R.out.symm,hbr⟩
end
section
set_option maxRecDepth 100000
set_option maxHeartbeats 400000
def RetCacheI (c:List (List TWay)) (v:Int) (w:World) (en:Ending) (w':World):Prop:=∃A n,en= .returned (.tuple #[.agg #[.slice A c.length n],.int .i64 v])∧OCache (Rng w.heap.size w'.heap.size) w' (.slice A c.length n) c∧Below w.heap.size w w'
end
end Go.Proofs.YtinlmkhlgclbfabDoor
