/- LawWinC -/
import Derived.Test.YtinlmkhlgclbfabWcA44
import Derived.Test.YtinlmkhlgclbfabWcA45
import Derived.Test.YtinlmkhlgclbfabWcA46
import Derived.Test.YtinlmkhlgclbfabWcA47
namespace Go.Proofs.Ytinlmkhlgclbfab
open Go.RowKit
set_option maxRecDepth 100000
set_option maxHeartbeats 8000000

theorem cacheIs_true {x : List (List TWay)} {e wn : Int} {y : List (List TWay)} (h1 : e = wn) (h2 : x = if wn = 0 then y else []) : cacheIs x e wn y = true := by unfold cacheIs; simp [h1, h2]
theorem cache_small {k : List (List TWay)} (h : CacheOk k) : ∀ i, i < k.length → (nth k i).length ≤ 1000000 := fun i hi => by have := h.same i hi; have := h.w3; omega
theorem none_small : ∀ i, i < ([] : List (List TWay)).length → (nth ([] : List (List TWay)) i).length ≤ 1000000 := fun i hi => by simp at hi

theorem lawWindowCosts_a0 (k : List (List TWay)) (A : Option Addr) (n : Nat) (kd ln v : Int) (B : Nat) (w : World) (hB : B ≤ w.heap.size) (hs : Sl cWay.slice (Low B) w A n k) (e1 : checkCache k ≠ 0) (e2 : actErr ⟨kd, ln, v⟩ = 0) :
    Calls Try.prog 6 #[.agg #[.slice A k.length n], .agg #[.int .i64 kd, .int .i64 ln, .int .i64 v]] w fun en w' => en = .returned (.bool true) ∧ Below w.heap.size w w' := by
  have HB := Lib.hid lawWindowBegun
  have H1 := Lib.hid (fun W (h : Below w.heap.size w W) => windowCost k ⟨kd, ln, v⟩ A n B W (Nat.le_trans hB h.size) (hs.next hB h))
  have H2 := Lib.hid (fun W => windowWorstE ⟨kd, ln, v⟩ W)
  have H3 := Lib.hid (fun W => refCheckAction ⟨kd, ln, v⟩ W)
  have H4 := Lib.hid (fun W (h : Below w.heap.size w W) => refCheckCache k A n B W (Nat.le_trans hB h.size) (hs.next hB h))
  have hE : costErr k ⟨kd, ln, v⟩ = checkCache k := by unfold costErr; rw [if_pos e1]
  rw [show costN k ⟨kd, ln, v⟩ = 0 by unfold costN; rw [hE, if_neg e1], show costRes k ⟨kd, ln, v⟩ = [] by unfold costRes; rw [hE, if_neg e1], hE] at H1
  clear hE
  rw [if_pos e2, e2] at H2
  rw [e2] at H3
  have H5 := Lib.hid (fun W => refWorstOf ⟨kd, ln, v⟩ W)
  have b1 : (checkCache k == 0) = false := by simp [e1]
  have hce := e1
  generalize checkCache k = CE at *
  replace hce := Lib.hid hce
  clear e1
  have hM : 1 ≤ worstA ⟨kd, ln, v⟩ := (worstA_bd (actErr_zero.1 e2)).1
  generalize worstA ⟨kd, ln, v⟩ = M at *
  have m2 : decide (M < 0) = false := by simp; omega
  have m3 : decide (0 < M) = true := by simp; omega
  have m4 : decide (0 ≤ M) = true := by simp; omega
  clear e2
  have hsl := Lib.hid hs
  have hcap := hs.cap
  have hmx := hs.max
  unfold maxLen at hmx
  clear hs
  dsimp only at H1 H2 H3 H5
  go_enter Try.func6, Try.ntmps6
  go_wp2_with fail
  (go_at_call 24; refine (H1.out _ byB).mono ?_; rintro e w1 ⟨A1, n1, rfl, hO1, hb_w1⟩; refine have_then (P := w1.heap[w.heap.size]? = some (.cells #[.slice A k.length n] 63)) ((hb_w1.block _ byS).trans byH) (fun k_w1 => ?_); obtain ⟨ck_w1, fk_w1, zk_w1⟩ := blk k_w1; refine have_then (P := w1.heap[w.heap.size + 1]? = some (.cells #[.int .i64 kd, .int .i64 ln, .int .i64 v] 65)) ((hb_w1.block _ byS).trans byH) (fun a_w1 => ?_); obtain ⟨ca_w1, fa_w1, za_w1⟩ := blk a_w1; refine have_then (P := Below w.heap.size w w1) byB (fun h_w1 => ?_); have s_w1 := Below.size h_w1; have t_w1 := Below.size hb_w1; (try simp at t_w1); revert hb_w1; intro hb_w1)
  have hx1 : Sl cWay.slice (Low w1.heap.size) w1 A1 n1 ([] : List (List TWay)) := (OSl.read hO1).mono fun b hb => hb.2
  clear hO1
  go_wp2_with fail
  (go_at_call 25; refine (H2.out _).mono ?_; rintro e w2 ⟨rfl, hb_w2⟩; refine have_then (P := w2.heap[w.heap.size]? = some (.cells #[.slice A k.length n] 63)) ((hb_w2.block _ byS).trans byH) (fun k_w2 => ?_); obtain ⟨ck_w2, fk_w2, zk_w2⟩ := blk k_w2; refine have_then (P := w2.heap[w.heap.size + 1]? = some (.cells #[.int .i64 kd, .int .i64 ln, .int .i64 v] 65)) ((hb_w2.block _ byS).trans byH) (fun a_w2 => ?_); obtain ⟨ca_w2, fa_w2, za_w2⟩ := blk a_w2; refine have_then (P := w2.heap[w1.heap.size]? = some (.cells #[.slice A1 0 n1] 63)) ((hb_w2.block _ byS).trans byH) (fun x_w2 => ?_); obtain ⟨cx_w2, fx_w2, zx_w2⟩ := blk x_w2; refine have_then (P := Below w.heap.size w w2) byB (fun h_w2 => ?_); have s_w2 := Below.size h_w2; have t_w2 := Below.size hb_w2; (try simp at t_w2); revert hb_w2; intro hb_w2; clear k_w1 ck_w1 fk_w1 a_w1 ca_w1 fa_w1)
  go_wp2_with fail
  (go_at_call 26; refine (H3.out _).mono ?_; rintro e w3 ⟨rfl, hb_w3⟩; refine have_then (P := w3.heap[w.heap.size]? = some (.cells #[.slice A k.length n] 63)) ((hb_w3.block _ byS).trans byH) (fun k_w3 => ?_); obtain ⟨ck_w3, fk_w3, zk_w3⟩ := blk k_w3; refine have_then (P := w3.heap[w.heap.size + 1]? = some (.cells #[.int .i64 kd, .int .i64 ln, .int .i64 v] 65)) ((hb_w3.block _ byS).trans byH) (fun a_w3 => ?_); obtain ⟨ca_w3, fa_w3, za_w3⟩ := blk a_w3; refine have_then (P := w3.heap[w1.heap.size]? = some (.cells #[.slice A1 0 n1] 63)) ((hb_w3.block _ byS).trans byH) (fun x_w3 => ?_); obtain ⟨cx_w3, fx_w3, zx_w3⟩ := blk x_w3; refine have_then (P := Below w.heap.size w w3) byB (fun h_w3 => ?_); have s_w3 := Below.size h_w3; have t_w3 := Below.size hb_w3; (try simp at t_w3); revert hb_w3; intro hb_w3; clear k_w2 ck_w2 fk_w2 a_w2 ca_w2 fa_w2 x_w2 cx_w2 fx_w2)
  go_wp2_with fail
  (go_at_call 27; refine (H4.out _ byB).mono ?_; rintro e w4 ⟨rfl, hb_w4⟩; refine have_then (P := w4.heap[w.heap.size]? = some (.cells #[.slice A k.length n] 63)) ((hb_w4.block _ byS).trans byH) (fun k_w4 => ?_); obtain ⟨ck_w4, fk_w4, zk_w4⟩ := blk k_w4; refine have_then (P := w4.heap[w.heap.size + 1]? = some (.cells #[.int .i64 kd, .int .i64 ln, .int .i64 v] 65)) ((hb_w4.block _ byS).trans byH) (fun a_w4 => ?_); obtain ⟨ca_w4, fa_w4, za_w4⟩ := blk a_w4; refine have_then (P := w4.heap[w1.heap.size]? = some (.cells #[.slice A1 0 n1] 63)) ((hb_w4.block _ byS).trans byH) (fun x_w4 => ?_); obtain ⟨cx_w4, fx_w4, zx_w4⟩ := blk x_w4; refine have_then (P := Below w.heap.size w w4) byB (fun h_w4 => ?_); have s_w4 := Below.size h_w4; have t_w4 := Below.size hb_w4; (try simp at t_w4); revert hb_w4; intro hb_w4; clear k_w3 ck_w3 fk_w3 a_w3 ca_w3 fa_w3 x_w3 cx_w3 fx_w3)
  go_wp2_with fail
  (go_at_call 28; refine (H5.out _).mono ?_; rintro e w5 ⟨rfl, hb_w5⟩; refine have_then (P := w5.heap[w.heap.size]? = some (.cells #[.slice A k.length n] 63)) ((hb_w5.block _ byS).trans byH) (fun k_w5 => ?_); obtain ⟨ck_w5, fk_w5, zk_w5⟩ := blk k_w5; refine have_then (P := w5.heap[w.heap.size + 1]? = some (.cells #[.int .i64 kd, .int .i64 ln, .int .i64 v] 65)) ((hb_w5.block _ byS).trans byH) (fun a_w5 => ?_); obtain ⟨ca_w5, fa_w5, za_w5⟩ := blk a_w5; refine have_then (P := w5.heap[w1.heap.size]? = some (.cells #[.slice A1 0 n1] 63)) ((hb_w5.block _ byS).trans byH) (fun x_w5 => ?_); obtain ⟨cx_w5, fx_w5, zx_w5⟩ := blk x_w5; refine have_then (P := w5.heap[w4.heap.size]? = some (.cells #[.slice none 0 0] 63)) ((hb_w5.block _ byS).trans byH) (fun q_w5 => ?_); obtain ⟨cq_w5, fq_w5, zq_w5⟩ := blk q_w5; refine have_then (P := Below w.heap.size w w5) byB (fun h_w5 => ?_); have s_w5 := Below.size h_w5; have t_w5 := Below.size hb_w5; (try simp at t_w5); revert hb_w5; intro hb_w5; clear k_w4 ck_w4 fk_w4 a_w4 ca_w4 fa_w4 x_w4 cx_w4 fx_w4)
  go_wp2_with fail
  (go_at_call 30; refine (HB.out _).mono ?_; rintro e w7 ⟨rfl, hb_w7⟩; refine have_then (P := w7.heap[w.heap.size]? = some (.cells #[.slice A k.length n] 63)) ((hb_w7.block _ byS).trans byH) (fun k_w7 => ?_); obtain ⟨ck_w7, fk_w7, zk_w7⟩ := blk k_w7; refine have_then (P := w7.heap[w.heap.size + 1]? = some (.cells #[.int .i64 kd, .int .i64 ln, .int .i64 v] 65)) ((hb_w7.block _ byS).trans byH) (fun a_w7 => ?_); obtain ⟨ca_w7, fa_w7, za_w7⟩ := blk a_w7; refine have_then (P := w7.heap[w1.heap.size]? = some (.cells #[.slice A1 0 n1] 63)) ((hb_w7.block _ byS).trans byH) (fun x_w7 => ?_); obtain ⟨cx_w7, fx_w7, zx_w7⟩ := blk x_w7; refine have_then (P := w7.heap[w4.heap.size]? = some (.cells #[.slice none 0 0] 63)) ((hb_w7.block _ byS).trans byH) (fun q_w7 => ?_); obtain ⟨cq_w7, fq_w7, zq_w7⟩ := blk q_w7; refine have_then (P := Below w.heap.size w w7) byB (fun h_w7 => ?_); have s_w7 := Below.size h_w7; have t_w7 := Below.size hb_w7; (try simp at t_w7); revert hb_w7; intro hb_w7; clear k_w5 ck_w5 fk_w5 a_w5 ca_w5 fa_w5 x_w5 cx_w5 fx_w5 q_w5 cq_w5 fq_w5)
  have hx7 : Sl cWay.slice (Low w7.heap.size) w7 A1 n1 ([] : List (List TWay)) := (hx1.next (Nat.le_refl _) byB).up byS
  have hy7 : Sl cWay.slice (Low w7.heap.size) w7 none 0 ([] : List (List TWay)) := Sl.empty _ _ _
  have HI := Lib.hid (lawCacheIs ([] : List (List TWay)) ([] : List (List TWay)) CE CE A1 none n1 0 w7.heap.size w7 (Nat.le_refl _) hx7 hy7 none_small)
  rw [cacheIs_true rfl ((by rw [if_neg hce.out]))] at HI
  clear hx1 hx7 hy7
  go_wp2_with fail
  go_at_call 31
  refine HI.out.mono ?_
  rintro e w8 ⟨rfl, hb8⟩
  go_wp2_with fail
  go_ret
  exact ⟨rfl, h_w7.trans (hb8.mono s_w7)⟩

theorem lawWindowCosts_a1 (k : List (List TWay)) (A : Option Addr) (n : Nat) (kd ln v : Int) (B : Nat) (w : World) (hB : B ≤ w.heap.size) (hs : Sl cWay.slice (Low B) w A n k) (e1 : checkCache k ≠ 0) (e2 : actErr ⟨kd, ln, v⟩ ≠ 0) :
    Calls Try.prog 6 #[.agg #[.slice A k.length n], .agg #[.int .i64 kd, .int .i64 ln, .int .i64 v]] w fun en w' => en = .returned (.bool true) ∧ Below w.heap.size w w' := by
  have HB := Lib.hid lawWindowBegun
  have H1 := Lib.hid (fun W (h : Below w.heap.size w W) => windowCost k ⟨kd, ln, v⟩ A n B W (Nat.le_trans hB h.size) (hs.next hB h))
  have H2 := Lib.hid (fun W => windowWorstE ⟨kd, ln, v⟩ W)
  have H3 := Lib.hid (fun W => refCheckAction ⟨kd, ln, v⟩ W)
  have H4 := Lib.hid (fun W (h : Below w.heap.size w W) => refCheckCache k A n B W (Nat.le_trans hB h.size) (hs.next hB h))
  have hE : costErr k ⟨kd, ln, v⟩ = checkCache k := by unfold costErr; rw [if_pos e1]
  rw [show costN k ⟨kd, ln, v⟩ = 0 by unfold costN; rw [hE, if_neg e1], show costRes k ⟨kd, ln, v⟩ = [] by unfold costRes; rw [hE, if_neg e1], hE] at H1
  clear hE
  rw [if_neg e2] at H2
  have b1 : (checkCache k == 0) = false := by simp [e1]
  have hce := e1
  generalize checkCache k = CE at *
  replace hce := Lib.hid hce
  clear e1
  have b2 : (actErr ⟨kd, ln, v⟩ == 0) = false := by simp [e2]
  have hae := e2
  generalize actErr ⟨kd, ln, v⟩ = AE at *
  replace hae := Lib.hid hae
  clear e2
  have hsl := Lib.hid hs
  have hcap := hs.cap
  have hmx := hs.max
  unfold maxLen at hmx
  clear hs
  dsimp only at H1 H2 H3
  go_enter Try.func6, Try.ntmps6
  go_wp2_with fail
  (go_at_call 24; refine (H1.out _ byB).mono ?_; rintro e w1 ⟨A1, n1, rfl, hO1, hb_w1⟩; refine have_then (P := w1.heap[w.heap.size]? = some (.cells #[.slice A k.length n] 63)) ((hb_w1.block _ byS).trans byH) (fun k_w1 => ?_); obtain ⟨ck_w1, fk_w1, zk_w1⟩ := blk k_w1; refine have_then (P := w1.heap[w.heap.size + 1]? = some (.cells #[.int .i64 kd, .int .i64 ln, .int .i64 v] 65)) ((hb_w1.block _ byS).trans byH) (fun a_w1 => ?_); obtain ⟨ca_w1, fa_w1, za_w1⟩ := blk a_w1; refine have_then (P := Below w.heap.size w w1) byB (fun h_w1 => ?_); have s_w1 := Below.size h_w1; have t_w1 := Below.size hb_w1; (try simp at t_w1); revert hb_w1; intro hb_w1)
  have hx1 : Sl cWay.slice (Low w1.heap.size) w1 A1 n1 ([] : List (List TWay)) := (OSl.read hO1).mono fun b hb => hb.2
  clear hO1
  go_wp2_with fail
  (go_at_call 25; refine (H2.out _).mono ?_; rintro e w2 ⟨rfl, hb_w2⟩; refine have_then (P := w2.heap[w.heap.size]? = some (.cells #[.slice A k.length n] 63)) ((hb_w2.block _ byS).trans byH) (fun k_w2 => ?_); obtain ⟨ck_w2, fk_w2, zk_w2⟩ := blk k_w2; refine have_then (P := w2.heap[w.heap.size + 1]? = some (.cells #[.int .i64 kd, .int .i64 ln, .int .i64 v] 65)) ((hb_w2.block _ byS).trans byH) (fun a_w2 => ?_); obtain ⟨ca_w2, fa_w2, za_w2⟩ := blk a_w2; refine have_then (P := w2.heap[w1.heap.size]? = some (.cells #[.slice A1 0 n1] 63)) ((hb_w2.block _ byS).trans byH) (fun x_w2 => ?_); obtain ⟨cx_w2, fx_w2, zx_w2⟩ := blk x_w2; refine have_then (P := Below w.heap.size w w2) byB (fun h_w2 => ?_); have s_w2 := Below.size h_w2; have t_w2 := Below.size hb_w2; (try simp at t_w2); revert hb_w2; intro hb_w2; clear k_w1 ck_w1 fk_w1 a_w1 ca_w1 fa_w1)
  go_wp2_with fail
  (go_at_call 26; refine (H3.out _).mono ?_; rintro e w3 ⟨rfl, hb_w3⟩; refine have_then (P := w3.heap[w.heap.size]? = some (.cells #[.slice A k.length n] 63)) ((hb_w3.block _ byS).trans byH) (fun k_w3 => ?_); obtain ⟨ck_w3, fk_w3, zk_w3⟩ := blk k_w3; refine have_then (P := w3.heap[w.heap.size + 1]? = some (.cells #[.int .i64 kd, .int .i64 ln, .int .i64 v] 65)) ((hb_w3.block _ byS).trans byH) (fun a_w3 => ?_); obtain ⟨ca_w3, fa_w3, za_w3⟩ := blk a_w3; refine have_then (P := w3.heap[w1.heap.size]? = some (.cells #[.slice A1 0 n1] 63)) ((hb_w3.block _ byS).trans byH) (fun x_w3 => ?_); obtain ⟨cx_w3, fx_w3, zx_w3⟩ := blk x_w3; refine have_then (P := Below w.heap.size w w3) byB (fun h_w3 => ?_); have s_w3 := Below.size h_w3; have t_w3 := Below.size hb_w3; (try simp at t_w3); revert hb_w3; intro hb_w3; clear k_w2 ck_w2 fk_w2 a_w2 ca_w2 fa_w2 x_w2 cx_w2 fx_w2)
  go_wp2_with fail
  (go_at_call 27; refine (H4.out _ byB).mono ?_; rintro e w4 ⟨rfl, hb_w4⟩; refine have_then (P := w4.heap[w.heap.size]? = some (.cells #[.slice A k.length n] 63)) ((hb_w4.block _ byS).trans byH) (fun k_w4 => ?_); obtain ⟨ck_w4, fk_w4, zk_w4⟩ := blk k_w4; refine have_then (P := w4.heap[w.heap.size + 1]? = some (.cells #[.int .i64 kd, .int .i64 ln, .int .i64 v] 65)) ((hb_w4.block _ byS).trans byH) (fun a_w4 => ?_); obtain ⟨ca_w4, fa_w4, za_w4⟩ := blk a_w4; refine have_then (P := w4.heap[w1.heap.size]? = some (.cells #[.slice A1 0 n1] 63)) ((hb_w4.block _ byS).trans byH) (fun x_w4 => ?_); obtain ⟨cx_w4, fx_w4, zx_w4⟩ := blk x_w4; refine have_then (P := Below w.heap.size w w4) byB (fun h_w4 => ?_); have s_w4 := Below.size h_w4; have t_w4 := Below.size hb_w4; (try simp at t_w4); revert hb_w4; intro hb_w4; clear k_w3 ck_w3 fk_w3 a_w3 ca_w3 fa_w3 x_w3 cx_w3 fx_w3)
  go_wp2_with fail
  (go_at_call 30; refine (HB.out _).mono ?_; rintro e w7 ⟨rfl, hb_w7⟩; refine have_then (P := w7.heap[w.heap.size]? = some (.cells #[.slice A k.length n] 63)) ((hb_w7.block _ byS).trans byH) (fun k_w7 => ?_); obtain ⟨ck_w7, fk_w7, zk_w7⟩ := blk k_w7; refine have_then (P := w7.heap[w.heap.size + 1]? = some (.cells #[.int .i64 kd, .int .i64 ln, .int .i64 v] 65)) ((hb_w7.block _ byS).trans byH) (fun a_w7 => ?_); obtain ⟨ca_w7, fa_w7, za_w7⟩ := blk a_w7; refine have_then (P := w7.heap[w1.heap.size]? = some (.cells #[.slice A1 0 n1] 63)) ((hb_w7.block _ byS).trans byH) (fun x_w7 => ?_); obtain ⟨cx_w7, fx_w7, zx_w7⟩ := blk x_w7; refine have_then (P := w7.heap[w4.heap.size]? = some (.cells #[.slice none 0 0] 63)) ((hb_w7.block _ byS).trans byH) (fun q_w7 => ?_); obtain ⟨cq_w7, fq_w7, zq_w7⟩ := blk q_w7; refine have_then (P := Below w.heap.size w w7) byB (fun h_w7 => ?_); have s_w7 := Below.size h_w7; have t_w7 := Below.size hb_w7; (try simp at t_w7); revert hb_w7; intro hb_w7; clear k_w4 ck_w4 fk_w4 a_w4 ca_w4 fa_w4 x_w4 cx_w4 fx_w4)
  have hx7 : Sl cWay.slice (Low w7.heap.size) w7 A1 n1 ([] : List (List TWay)) := (hx1.next (Nat.le_refl _) byB).up byS
  have hy7 : Sl cWay.slice (Low w7.heap.size) w7 none 0 ([] : List (List TWay)) := Sl.empty _ _ _
  have HI := Lib.hid (lawCacheIs ([] : List (List TWay)) ([] : List (List TWay)) CE CE A1 none n1 0 w7.heap.size w7 (Nat.le_refl _) hx7 hy7 none_small)
  rw [cacheIs_true rfl ((by rw [if_neg hce.out]))] at HI
  clear hx1 hx7 hy7
  go_wp2_with fail
  go_at_call 31
  refine HI.out.mono ?_
  rintro e w8 ⟨rfl, hb8⟩
  go_wp2_with fail
  go_ret
  exact ⟨rfl, h_w7.trans (hb8.mono s_w7)⟩

theorem lawWindowCosts_b (k : List (List TWay)) (A : Option Addr) (n : Nat) (kd ln v : Int) (B : Nat) (w : World) (hB : B ≤ w.heap.size) (hs : Sl cWay.slice (Low B) w A n k) (e1 : checkCache k = 0) (e2 : actErr ⟨kd, ln, v⟩ ≠ 0) :
    Calls Try.prog 6 #[.agg #[.slice A k.length n], .agg #[.int .i64 kd, .int .i64 ln, .int .i64 v]] w fun en w' => en = .returned (.bool true) ∧ Below w.heap.size w w' := by
  have HB := Lib.hid lawWindowBegun
  have H1 := Lib.hid (fun W (h : Below w.heap.size w W) => windowCost k ⟨kd, ln, v⟩ A n B W (Nat.le_trans hB h.size) (hs.next hB h))
  have H2 := Lib.hid (fun W => windowWorstE ⟨kd, ln, v⟩ W)
  have H3 := Lib.hid (fun W => refCheckAction ⟨kd, ln, v⟩ W)
  have H4 := Lib.hid (fun W (h : Below w.heap.size w W) => refCheckCache k A n B W (Nat.le_trans hB h.size) (hs.next hB h))
  have hE : costErr k ⟨kd, ln, v⟩ = actErr ⟨kd, ln, v⟩ := by unfold costErr; rw [if_neg (by simp [e1])]
  rw [show costN k ⟨kd, ln, v⟩ = 0 by unfold costN; rw [hE, if_neg e2], show costRes k ⟨kd, ln, v⟩ = [] by unfold costRes; rw [hE, if_neg e2], hE] at H1
  clear hE
  rw [if_neg e2] at H2
  rw [e1] at H4
  have b2 : (actErr ⟨kd, ln, v⟩ == 0) = false := by simp [e2]
  have hae := e2
  generalize actErr ⟨kd, ln, v⟩ = AE at *
  replace hae := Lib.hid hae
  clear e2
  clear e1
  have hsl := Lib.hid hs
  have hcap := hs.cap
  have hmx := hs.max
  unfold maxLen at hmx
  clear hs
  dsimp only at H1 H2 H3
  go_enter Try.func6, Try.ntmps6
  go_wp2_with fail
  (go_at_call 24; refine (H1.out _ byB).mono ?_; rintro e w1 ⟨A1, n1, rfl, hO1, hb_w1⟩; refine have_then (P := w1.heap[w.heap.size]? = some (.cells #[.slice A k.length n] 63)) ((hb_w1.block _ byS).trans byH) (fun k_w1 => ?_); obtain ⟨ck_w1, fk_w1, zk_w1⟩ := blk k_w1; refine have_then (P := w1.heap[w.heap.size + 1]? = some (.cells #[.int .i64 kd, .int .i64 ln, .int .i64 v] 65)) ((hb_w1.block _ byS).trans byH) (fun a_w1 => ?_); obtain ⟨ca_w1, fa_w1, za_w1⟩ := blk a_w1; refine have_then (P := Below w.heap.size w w1) byB (fun h_w1 => ?_); have s_w1 := Below.size h_w1; have t_w1 := Below.size hb_w1; (try simp at t_w1); revert hb_w1; intro hb_w1)
  have hx1 : Sl cWay.slice (Low w1.heap.size) w1 A1 n1 ([] : List (List TWay)) := (OSl.read hO1).mono fun b hb => hb.2
  clear hO1
  go_wp2_with fail
  (go_at_call 25; refine (H2.out _).mono ?_; rintro e w2 ⟨rfl, hb_w2⟩; refine have_then (P := w2.heap[w.heap.size]? = some (.cells #[.slice A k.length n] 63)) ((hb_w2.block _ byS).trans byH) (fun k_w2 => ?_); obtain ⟨ck_w2, fk_w2, zk_w2⟩ := blk k_w2; refine have_then (P := w2.heap[w.heap.size + 1]? = some (.cells #[.int .i64 kd, .int .i64 ln, .int .i64 v] 65)) ((hb_w2.block _ byS).trans byH) (fun a_w2 => ?_); obtain ⟨ca_w2, fa_w2, za_w2⟩ := blk a_w2; refine have_then (P := w2.heap[w1.heap.size]? = some (.cells #[.slice A1 0 n1] 63)) ((hb_w2.block _ byS).trans byH) (fun x_w2 => ?_); obtain ⟨cx_w2, fx_w2, zx_w2⟩ := blk x_w2; refine have_then (P := Below w.heap.size w w2) byB (fun h_w2 => ?_); have s_w2 := Below.size h_w2; have t_w2 := Below.size hb_w2; (try simp at t_w2); revert hb_w2; intro hb_w2; clear k_w1 ck_w1 fk_w1 a_w1 ca_w1 fa_w1)
  go_wp2_with fail
  (go_at_call 26; refine (H3.out _).mono ?_; rintro e w3 ⟨rfl, hb_w3⟩; refine have_then (P := w3.heap[w.heap.size]? = some (.cells #[.slice A k.length n] 63)) ((hb_w3.block _ byS).trans byH) (fun k_w3 => ?_); obtain ⟨ck_w3, fk_w3, zk_w3⟩ := blk k_w3; refine have_then (P := w3.heap[w.heap.size + 1]? = some (.cells #[.int .i64 kd, .int .i64 ln, .int .i64 v] 65)) ((hb_w3.block _ byS).trans byH) (fun a_w3 => ?_); obtain ⟨ca_w3, fa_w3, za_w3⟩ := blk a_w3; refine have_then (P := w3.heap[w1.heap.size]? = some (.cells #[.slice A1 0 n1] 63)) ((hb_w3.block _ byS).trans byH) (fun x_w3 => ?_); obtain ⟨cx_w3, fx_w3, zx_w3⟩ := blk x_w3; refine have_then (P := Below w.heap.size w w3) byB (fun h_w3 => ?_); have s_w3 := Below.size h_w3; have t_w3 := Below.size hb_w3; (try simp at t_w3); revert hb_w3; intro hb_w3; clear k_w2 ck_w2 fk_w2 a_w2 ca_w2 fa_w2 x_w2 cx_w2 fx_w2)
  go_wp2_with fail
  (go_at_call 27; refine (H4.out _ byB).mono ?_; rintro e w4 ⟨rfl, hb_w4⟩; refine have_then (P := w4.heap[w.heap.size]? = some (.cells #[.slice A k.length n] 63)) ((hb_w4.block _ byS).trans byH) (fun k_w4 => ?_); obtain ⟨ck_w4, fk_w4, zk_w4⟩ := blk k_w4; refine have_then (P := w4.heap[w.heap.size + 1]? = some (.cells #[.int .i64 kd, .int .i64 ln, .int .i64 v] 65)) ((hb_w4.block _ byS).trans byH) (fun a_w4 => ?_); obtain ⟨ca_w4, fa_w4, za_w4⟩ := blk a_w4; refine have_then (P := w4.heap[w1.heap.size]? = some (.cells #[.slice A1 0 n1] 63)) ((hb_w4.block _ byS).trans byH) (fun x_w4 => ?_); obtain ⟨cx_w4, fx_w4, zx_w4⟩ := blk x_w4; refine have_then (P := Below w.heap.size w w4) byB (fun h_w4 => ?_); have s_w4 := Below.size h_w4; have t_w4 := Below.size hb_w4; (try simp at t_w4); revert hb_w4; intro hb_w4; clear k_w3 ck_w3 fk_w3 a_w3 ca_w3 fa_w3 x_w3 cx_w3 fx_w3)
  go_wp2_with fail
  (go_at_call 30; refine (HB.out _).mono ?_; rintro e w7 ⟨rfl, hb_w7⟩; refine have_then (P := w7.heap[w.heap.size]? = some (.cells #[.slice A k.length n] 63)) ((hb_w7.block _ byS).trans byH) (fun k_w7 => ?_); obtain ⟨ck_w7, fk_w7, zk_w7⟩ := blk k_w7; refine have_then (P := w7.heap[w.heap.size + 1]? = some (.cells #[.int .i64 kd, .int .i64 ln, .int .i64 v] 65)) ((hb_w7.block _ byS).trans byH) (fun a_w7 => ?_); obtain ⟨ca_w7, fa_w7, za_w7⟩ := blk a_w7; refine have_then (P := w7.heap[w1.heap.size]? = some (.cells #[.slice A1 0 n1] 63)) ((hb_w7.block _ byS).trans byH) (fun x_w7 => ?_); obtain ⟨cx_w7, fx_w7, zx_w7⟩ := blk x_w7; refine have_then (P := w7.heap[w4.heap.size]? = some (.cells #[.slice none 0 0] 63)) ((hb_w7.block _ byS).trans byH) (fun q_w7 => ?_); obtain ⟨cq_w7, fq_w7, zq_w7⟩ := blk q_w7; refine have_then (P := Below w.heap.size w w7) byB (fun h_w7 => ?_); have s_w7 := Below.size h_w7; have t_w7 := Below.size hb_w7; (try simp at t_w7); revert hb_w7; intro hb_w7; clear k_w4 ck_w4 fk_w4 a_w4 ca_w4 fa_w4 x_w4 cx_w4 fx_w4)
  have hx7 : Sl cWay.slice (Low w7.heap.size) w7 A1 n1 ([] : List (List TWay)) := (hx1.next (Nat.le_refl _) byB).up byS
  have hy7 : Sl cWay.slice (Low w7.heap.size) w7 none 0 ([] : List (List TWay)) := Sl.empty _ _ _
  have HI := Lib.hid (lawCacheIs ([] : List (List TWay)) ([] : List (List TWay)) AE AE A1 none n1 0 w7.heap.size w7 (Nat.le_refl _) hx7 hy7 none_small)
  rw [cacheIs_true rfl ((by rw [if_neg hae.out]))] at HI
  clear hx1 hx7 hy7
  go_wp2_with fail
  go_at_call 31
  refine HI.out.mono ?_
  rintro e w8 ⟨rfl, hb8⟩
  go_wp2_with fail
  go_ret
  exact ⟨rfl, h_w7.trans (hb8.mono s_w7)⟩

theorem lawWindowCosts_c2 (k : List (List TWay)) (A : Option Addr) (n : Nat) (kd ln v : Int) (B : Nat) (w : World) (hB : B ≤ w.heap.size) (hs : Sl cWay.slice (Low B) w A n k) (e1 : checkCache k = 0) (e2 : actErr ⟨2, ln, v⟩ = 0) :
    Calls Try.prog 6 #[.agg #[.slice A k.length n], .agg #[.int .i64 2, .int .i64 ln, .int .i64 v]] w fun en w' => en = .returned (.bool true) ∧ Below w.heap.size w w' := by
  have HB := Lib.hid lawWindowBegun
  have H1 := Lib.hid (fun W (h : Below w.heap.size w W) => windowCost k ⟨2, ln, v⟩ A n B W (Nat.le_trans hB h.size) (hs.next hB h))
  have H2 := Lib.hid (fun W => windowWorstE ⟨2, ln, v⟩ W)
  have H3 := Lib.hid (fun W => refCheckAction ⟨2, ln, v⟩ W)
  have H4 := Lib.hid (fun W (h : Below w.heap.size w W) => refCheckCache k A n B W (Nat.le_trans hB h.size) (hs.next hB h))
  have ok := checkCache_ok.1 e1
  have ha := actErr_zero.1 e2
  have hsp := spend_bd (k := k) ha
  have hE : costErr k ⟨2, ln, v⟩ = 0 := by unfold costErr; rw [if_neg (by simp [e1]), e2]
  rw [show costN k ⟨2, ln, v⟩ = spendN k ⟨2, ln, v⟩ by unfold costN; rw [if_pos hE], show costRes k ⟨2, ln, v⟩ = spendK k ⟨2, ln, v⟩ by unfold costRes; rw [if_pos hE], hE] at H1
  clear hE
  rw [if_pos e2, e2] at H2
  rw [e2] at H3
  have H5 := Lib.hid (fun W => refWorstOf ⟨2, ln, v⟩ W)
  rw [e1] at H4
  have HX := Lib.hid (cache_small (spendK_ok (k := k) (a := ⟨2, ln, v⟩) ok ha))
  have hln := ha.line (by dsimp only; omega)
  dsimp only at hln
  have H6 := Lib.hid (fun W (h : Below w.heap.size w W) => refAccessOf k ok ln false hln.1 hln.2 A n B W (Nat.le_trans hB h.size) (hs.next hB h))
  rw [show accessOf k ln false = spendK k ⟨2, ln, v⟩ by simp [spendK, isMem], show accessCost k ln = spendN k ⟨2, ln, v⟩ by simp [spendN, isMem]] at H6
  generalize spendK k ⟨2, ln, v⟩ = X at *
  generalize spendN k ⟨2, ln, v⟩ = N at *
  generalize worstA ⟨2, ln, v⟩ = M at *
  clear ok ha
  have m1 : ¬ M < 0 := by omega
  have m2 : decide (M < 0) = false := by simp; omega
  have m3 : decide (0 < M) = true := by simp; omega
  clear e1
  clear e2
  have hsl := Lib.hid hs
  have hcap := hs.cap
  have hmx := hs.max
  unfold maxLen at hmx
  clear hs
  dsimp only at H1 H2 H3 H5
  go_enter Try.func6, Try.ntmps6
  go_wp2_with fail
  (go_at_call 24; refine (H1.out _ byB).mono ?_; rintro e w1 ⟨A1, n1, rfl, hO1, hb_w1⟩; refine have_then (P := w1.heap[w.heap.size]? = some (.cells #[.slice A k.length n] 63)) ((hb_w1.block _ byS).trans byH) (fun k_w1 => ?_); obtain ⟨ck_w1, fk_w1, zk_w1⟩ := blk k_w1; refine have_then (P := w1.heap[w.heap.size + 1]? = some (.cells #[.int .i64 2, .int .i64 ln, .int .i64 v] 65)) ((hb_w1.block _ byS).trans byH) (fun a_w1 => ?_); obtain ⟨ca_w1, fa_w1, za_w1⟩ := blk a_w1; refine have_then (P := Below w.heap.size w w1) byB (fun h_w1 => ?_); have s_w1 := Below.size h_w1; have t_w1 := Below.size hb_w1; (try simp at t_w1); revert hb_w1; intro hb_w1)
  have hx1 : Sl cWay.slice (Low w1.heap.size) w1 A1 n1 X := (OSl.read hO1).mono fun b hb => hb.2
  clear hO1
  go_wp2_with fail
  (go_at_call 25; refine (H2.out _).mono ?_; rintro e w2 ⟨rfl, hb_w2⟩; refine have_then (P := w2.heap[w.heap.size]? = some (.cells #[.slice A k.length n] 63)) ((hb_w2.block _ byS).trans byH) (fun k_w2 => ?_); obtain ⟨ck_w2, fk_w2, zk_w2⟩ := blk k_w2; refine have_then (P := w2.heap[w.heap.size + 1]? = some (.cells #[.int .i64 2, .int .i64 ln, .int .i64 v] 65)) ((hb_w2.block _ byS).trans byH) (fun a_w2 => ?_); obtain ⟨ca_w2, fa_w2, za_w2⟩ := blk a_w2; refine have_then (P := w2.heap[w1.heap.size]? = some (.cells #[.slice A1 X.length n1] 63)) ((hb_w2.block _ byS).trans byH) (fun x_w2 => ?_); obtain ⟨cx_w2, fx_w2, zx_w2⟩ := blk x_w2; refine have_then (P := Below w.heap.size w w2) byB (fun h_w2 => ?_); have s_w2 := Below.size h_w2; have t_w2 := Below.size hb_w2; (try simp at t_w2); revert hb_w2; intro hb_w2; clear k_w1 ck_w1 fk_w1 a_w1 ca_w1 fa_w1)
  go_wp2_with fail
  (go_at_call 26; refine (H3.out _).mono ?_; rintro e w3 ⟨rfl, hb_w3⟩; refine have_then (P := w3.heap[w.heap.size]? = some (.cells #[.slice A k.length n] 63)) ((hb_w3.block _ byS).trans byH) (fun k_w3 => ?_); obtain ⟨ck_w3, fk_w3, zk_w3⟩ := blk k_w3; refine have_then (P := w3.heap[w.heap.size + 1]? = some (.cells #[.int .i64 2, .int .i64 ln, .int .i64 v] 65)) ((hb_w3.block _ byS).trans byH) (fun a_w3 => ?_); obtain ⟨ca_w3, fa_w3, za_w3⟩ := blk a_w3; refine have_then (P := w3.heap[w1.heap.size]? = some (.cells #[.slice A1 X.length n1] 63)) ((hb_w3.block _ byS).trans byH) (fun x_w3 => ?_); obtain ⟨cx_w3, fx_w3, zx_w3⟩ := blk x_w3; refine have_then (P := Below w.heap.size w w3) byB (fun h_w3 => ?_); have s_w3 := Below.size h_w3; have t_w3 := Below.size hb_w3; (try simp at t_w3); revert hb_w3; intro hb_w3; clear k_w2 ck_w2 fk_w2 a_w2 ca_w2 fa_w2 x_w2 cx_w2 fx_w2)
  go_wp2_with fail
  (go_at_call 27; refine (H4.out _ byB).mono ?_; rintro e w4 ⟨rfl, hb_w4⟩; refine have_then (P := w4.heap[w.heap.size]? = some (.cells #[.slice A k.length n] 63)) ((hb_w4.block _ byS).trans byH) (fun k_w4 => ?_); obtain ⟨ck_w4, fk_w4, zk_w4⟩ := blk k_w4; refine have_then (P := w4.heap[w.heap.size + 1]? = some (.cells #[.int .i64 2, .int .i64 ln, .int .i64 v] 65)) ((hb_w4.block _ byS).trans byH) (fun a_w4 => ?_); obtain ⟨ca_w4, fa_w4, za_w4⟩ := blk a_w4; refine have_then (P := w4.heap[w1.heap.size]? = some (.cells #[.slice A1 X.length n1] 63)) ((hb_w4.block _ byS).trans byH) (fun x_w4 => ?_); obtain ⟨cx_w4, fx_w4, zx_w4⟩ := blk x_w4; refine have_then (P := Below w.heap.size w w4) byB (fun h_w4 => ?_); have s_w4 := Below.size h_w4; have t_w4 := Below.size hb_w4; (try simp at t_w4); revert hb_w4; intro hb_w4; clear k_w3 ck_w3 fk_w3 a_w3 ca_w3 fa_w3 x_w3 cx_w3 fx_w3)
  go_wp2_with fail
  (go_at_call 28; refine (H5.out _).mono ?_; rintro e w5 ⟨rfl, hb_w5⟩; refine have_then (P := w5.heap[w.heap.size]? = some (.cells #[.slice A k.length n] 63)) ((hb_w5.block _ byS).trans byH) (fun k_w5 => ?_); obtain ⟨ck_w5, fk_w5, zk_w5⟩ := blk k_w5; refine have_then (P := w5.heap[w.heap.size + 1]? = some (.cells #[.int .i64 2, .int .i64 ln, .int .i64 v] 65)) ((hb_w5.block _ byS).trans byH) (fun a_w5 => ?_); obtain ⟨ca_w5, fa_w5, za_w5⟩ := blk a_w5; refine have_then (P := w5.heap[w1.heap.size]? = some (.cells #[.slice A1 X.length n1] 63)) ((hb_w5.block _ byS).trans byH) (fun x_w5 => ?_); obtain ⟨cx_w5, fx_w5, zx_w5⟩ := blk x_w5; refine have_then (P := w5.heap[w4.heap.size]? = some (.cells #[.slice none 0 0] 63)) ((hb_w5.block _ byS).trans byH) (fun q_w5 => ?_); obtain ⟨cq_w5, fq_w5, zq_w5⟩ := blk q_w5; refine have_then (P := Below w.heap.size w w5) byB (fun h_w5 => ?_); have s_w5 := Below.size h_w5; have t_w5 := Below.size hb_w5; (try simp at t_w5); revert hb_w5; intro hb_w5; clear k_w4 ck_w4 fk_w4 a_w4 ca_w4 fa_w4 x_w4 cx_w4 fx_w4)
  go_wp2_with fail
  (go_at_call 29; refine (H6.out _ byB).mono ?_; rintro e w6 ⟨A6, n6, rfl, hO6, hb_w6⟩; refine have_then (P := w6.heap[w.heap.size]? = some (.cells #[.slice A k.length n] 63)) ((hb_w6.block _ byS).trans byH) (fun k_w6 => ?_); obtain ⟨ck_w6, fk_w6, zk_w6⟩ := blk k_w6; refine have_then (P := w6.heap[w.heap.size + 1]? = some (.cells #[.int .i64 2, .int .i64 ln, .int .i64 v] 65)) ((hb_w6.block _ byS).trans byH) (fun a_w6 => ?_); obtain ⟨ca_w6, fa_w6, za_w6⟩ := blk a_w6; refine have_then (P := w6.heap[w1.heap.size]? = some (.cells #[.slice A1 X.length n1] 63)) ((hb_w6.block _ byS).trans byH) (fun x_w6 => ?_); obtain ⟨cx_w6, fx_w6, zx_w6⟩ := blk x_w6; refine have_then (P := w6.heap[w4.heap.size]? = some (.cells #[.slice A k.length n] 63)) ((hb_w6.block _ byS).trans byH) (fun q2_w6 => ?_); obtain ⟨cq2_w6, fq2_w6, zq2_w6⟩ := blk q2_w6; refine have_then (P := Below w.heap.size w w6) byB (fun h_w6 => ?_); have s_w6 := Below.size h_w6; have t_w6 := Below.size hb_w6; (try simp at t_w6); revert hb_w6; intro hb_w6; clear k_w5 ck_w5 fk_w5 a_w5 ca_w5 fa_w5 x_w5 cx_w5 fx_w5)
  have hx6 : Sl cWay.slice (Rng w5.heap.size w6.heap.size) w6 A6 n6 X := (OSl.read hO6).mono fun b hb => ⟨by have := hb.1; simp at this; omega, hb.2⟩
  clear hO6
  go_wp2_with fail
  (go_at_call 30; refine (HB.out _).mono ?_; rintro e w7 ⟨rfl, hb_w7⟩; refine have_then (P := w7.heap[w.heap.size]? = some (.cells #[.slice A k.length n] 63)) ((hb_w7.block _ byS).trans byH) (fun k_w7 => ?_); obtain ⟨ck_w7, fk_w7, zk_w7⟩ := blk k_w7; refine have_then (P := w7.heap[w.heap.size + 1]? = some (.cells #[.int .i64 2, .int .i64 ln, .int .i64 v] 65)) ((hb_w7.block _ byS).trans byH) (fun a_w7 => ?_); obtain ⟨ca_w7, fa_w7, za_w7⟩ := blk a_w7; refine have_then (P := w7.heap[w1.heap.size]? = some (.cells #[.slice A1 X.length n1] 63)) ((hb_w7.block _ byS).trans byH) (fun x_w7 => ?_); obtain ⟨cx_w7, fx_w7, zx_w7⟩ := blk x_w7; refine have_then (P := w7.heap[w4.heap.size]? = some (.cells #[.slice A6 X.length n6] 63)) ((hb_w7.block _ byS).trans byH) (fun q3_w7 => ?_); obtain ⟨cq3_w7, fq3_w7, zq3_w7⟩ := blk q3_w7; refine have_then (P := Below w.heap.size w w7) byB (fun h_w7 => ?_); have s_w7 := Below.size h_w7; have t_w7 := Below.size hb_w7; (try simp at t_w7); revert hb_w7; intro hb_w7; clear k_w6 ck_w6 fk_w6 a_w6 ca_w6 fa_w6 x_w6 cx_w6 fx_w6)
  have hx7 : Sl cWay.slice (Low w7.heap.size) w7 A1 n1 X := (hx1.next (Nat.le_refl _) byB).up byS
  have hy7 : Sl cWay.slice (Low w7.heap.size) w7 A6 n6 X := (hx6.keepI byI).mono fun b hb => Nat.lt_of_lt_of_le hb.2 byS
  have HI := Lib.hid (lawCacheIs X X 0 0 A1 A6 n1 n6 w7.heap.size w7 (Nat.le_refl _) hx7 hy7 HX.out)
  rw [cacheIs_true rfl ((by rw [if_pos rfl]))] at HI
  clear hx1 hx7 hy7 hx6
  go_wp2_with fail
  go_at_call 31
  refine HI.out.mono ?_
  rintro e w8 ⟨rfl, hb8⟩
  go_wp2_with fail
  go_ret
  exact ⟨rfl, h_w7.trans (hb8.mono s_w7)⟩

theorem lawWindowCosts_c3 (k : List (List TWay)) (A : Option Addr) (n : Nat) (kd ln v : Int) (B : Nat) (w : World) (hB : B ≤ w.heap.size) (hs : Sl cWay.slice (Low B) w A n k) (e1 : checkCache k = 0) (e2 : actErr ⟨3, ln, v⟩ = 0) :
    Calls Try.prog 6 #[.agg #[.slice A k.length n], .agg #[.int .i64 3, .int .i64 ln, .int .i64 v]] w fun en w' => en = .returned (.bool true) ∧ Below w.heap.size w w' := by
  have HB := Lib.hid lawWindowBegun
  have H1 := Lib.hid (fun W (h : Below w.heap.size w W) => windowCost k ⟨3, ln, v⟩ A n B W (Nat.le_trans hB h.size) (hs.next hB h))
  have H2 := Lib.hid (fun W => windowWorstE ⟨3, ln, v⟩ W)
  have H3 := Lib.hid (fun W => refCheckAction ⟨3, ln, v⟩ W)
  have H4 := Lib.hid (fun W (h : Below w.heap.size w W) => refCheckCache k A n B W (Nat.le_trans hB h.size) (hs.next hB h))
  have ok := checkCache_ok.1 e1
  have ha := actErr_zero.1 e2
  have hsp := spend_bd (k := k) ha
  have hE : costErr k ⟨3, ln, v⟩ = 0 := by unfold costErr; rw [if_neg (by simp [e1]), e2]
  rw [show costN k ⟨3, ln, v⟩ = spendN k ⟨3, ln, v⟩ by unfold costN; rw [if_pos hE], show costRes k ⟨3, ln, v⟩ = spendK k ⟨3, ln, v⟩ by unfold costRes; rw [if_pos hE], hE] at H1
  clear hE
  rw [if_pos e2, e2] at H2
  rw [e2] at H3
  have H5 := Lib.hid (fun W => refWorstOf ⟨3, ln, v⟩ W)
  rw [e1] at H4
  have HX := Lib.hid (cache_small (spendK_ok (k := k) (a := ⟨3, ln, v⟩) ok ha))
  have hln := ha.line (by dsimp only; omega)
  dsimp only at hln
  have H6 := Lib.hid (fun W (h : Below w.heap.size w W) => refAccessOf k ok ln true hln.1 hln.2 A n B W (Nat.le_trans hB h.size) (hs.next hB h))
  rw [show accessOf k ln true = spendK k ⟨3, ln, v⟩ by simp [spendK, isMem], show accessCost k ln = spendN k ⟨3, ln, v⟩ by simp [spendN, isMem]] at H6
  generalize spendK k ⟨3, ln, v⟩ = X at *
  generalize spendN k ⟨3, ln, v⟩ = N at *
  generalize worstA ⟨3, ln, v⟩ = M at *
  clear ok ha
  have m1 : ¬ M < 0 := by omega
  have m2 : decide (M < 0) = false := by simp; omega
  have m3 : decide (0 < M) = true := by simp; omega
  clear e1
  clear e2
  have hsl := Lib.hid hs
  have hcap := hs.cap
  have hmx := hs.max
  unfold maxLen at hmx
  clear hs
  dsimp only at H1 H2 H3 H5
  go_enter Try.func6, Try.ntmps6
  go_wp2_with fail
  (go_at_call 24; refine (H1.out _ byB).mono ?_; rintro e w1 ⟨A1, n1, rfl, hO1, hb_w1⟩; refine have_then (P := w1.heap[w.heap.size]? = some (.cells #[.slice A k.length n] 63)) ((hb_w1.block _ byS).trans byH) (fun k_w1 => ?_); obtain ⟨ck_w1, fk_w1, zk_w1⟩ := blk k_w1; refine have_then (P := w1.heap[w.heap.size + 1]? = some (.cells #[.int .i64 3, .int .i64 ln, .int .i64 v] 65)) ((hb_w1.block _ byS).trans byH) (fun a_w1 => ?_); obtain ⟨ca_w1, fa_w1, za_w1⟩ := blk a_w1; refine have_then (P := Below w.heap.size w w1) byB (fun h_w1 => ?_); have s_w1 := Below.size h_w1; have t_w1 := Below.size hb_w1; (try simp at t_w1); revert hb_w1; intro hb_w1)
  have hx1 : Sl cWay.slice (Low w1.heap.size) w1 A1 n1 X := (OSl.read hO1).mono fun b hb => hb.2
  clear hO1
  go_wp2_with fail
  (go_at_call 25; refine (H2.out _).mono ?_; rintro e w2 ⟨rfl, hb_w2⟩; refine have_then (P := w2.heap[w.heap.size]? = some (.cells #[.slice A k.length n] 63)) ((hb_w2.block _ byS).trans byH) (fun k_w2 => ?_); obtain ⟨ck_w2, fk_w2, zk_w2⟩ := blk k_w2; refine have_then (P := w2.heap[w.heap.size + 1]? = some (.cells #[.int .i64 3, .int .i64 ln, .int .i64 v] 65)) ((hb_w2.block _ byS).trans byH) (fun a_w2 => ?_); obtain ⟨ca_w2, fa_w2, za_w2⟩ := blk a_w2; refine have_then (P := w2.heap[w1.heap.size]? = some (.cells #[.slice A1 X.length n1] 63)) ((hb_w2.block _ byS).trans byH) (fun x_w2 => ?_); obtain ⟨cx_w2, fx_w2, zx_w2⟩ := blk x_w2; refine have_then (P := Below w.heap.size w w2) byB (fun h_w2 => ?_); have s_w2 := Below.size h_w2; have t_w2 := Below.size hb_w2; (try simp at t_w2); revert hb_w2; intro hb_w2; clear k_w1 ck_w1 fk_w1 a_w1 ca_w1 fa_w1)
  go_wp2_with fail
  (go_at_call 26; refine (H3.out _).mono ?_; rintro e w3 ⟨rfl, hb_w3⟩; refine have_then (P := w3.heap[w.heap.size]? = some (.cells #[.slice A k.length n] 63)) ((hb_w3.block _ byS).trans byH) (fun k_w3 => ?_); obtain ⟨ck_w3, fk_w3, zk_w3⟩ := blk k_w3; refine have_then (P := w3.heap[w.heap.size + 1]? = some (.cells #[.int .i64 3, .int .i64 ln, .int .i64 v] 65)) ((hb_w3.block _ byS).trans byH) (fun a_w3 => ?_); obtain ⟨ca_w3, fa_w3, za_w3⟩ := blk a_w3; refine have_then (P := w3.heap[w1.heap.size]? = some (.cells #[.slice A1 X.length n1] 63)) ((hb_w3.block _ byS).trans byH) (fun x_w3 => ?_); obtain ⟨cx_w3, fx_w3, zx_w3⟩ := blk x_w3; refine have_then (P := Below w.heap.size w w3) byB (fun h_w3 => ?_); have s_w3 := Below.size h_w3; have t_w3 := Below.size hb_w3; (try simp at t_w3); revert hb_w3; intro hb_w3; clear k_w2 ck_w2 fk_w2 a_w2 ca_w2 fa_w2 x_w2 cx_w2 fx_w2)
  go_wp2_with fail
  (go_at_call 27; refine (H4.out _ byB).mono ?_; rintro e w4 ⟨rfl, hb_w4⟩; refine have_then (P := w4.heap[w.heap.size]? = some (.cells #[.slice A k.length n] 63)) ((hb_w4.block _ byS).trans byH) (fun k_w4 => ?_); obtain ⟨ck_w4, fk_w4, zk_w4⟩ := blk k_w4; refine have_then (P := w4.heap[w.heap.size + 1]? = some (.cells #[.int .i64 3, .int .i64 ln, .int .i64 v] 65)) ((hb_w4.block _ byS).trans byH) (fun a_w4 => ?_); obtain ⟨ca_w4, fa_w4, za_w4⟩ := blk a_w4; refine have_then (P := w4.heap[w1.heap.size]? = some (.cells #[.slice A1 X.length n1] 63)) ((hb_w4.block _ byS).trans byH) (fun x_w4 => ?_); obtain ⟨cx_w4, fx_w4, zx_w4⟩ := blk x_w4; refine have_then (P := Below w.heap.size w w4) byB (fun h_w4 => ?_); have s_w4 := Below.size h_w4; have t_w4 := Below.size hb_w4; (try simp at t_w4); revert hb_w4; intro hb_w4; clear k_w3 ck_w3 fk_w3 a_w3 ca_w3 fa_w3 x_w3 cx_w3 fx_w3)
  go_wp2_with fail
  (go_at_call 28; refine (H5.out _).mono ?_; rintro e w5 ⟨rfl, hb_w5⟩; refine have_then (P := w5.heap[w.heap.size]? = some (.cells #[.slice A k.length n] 63)) ((hb_w5.block _ byS).trans byH) (fun k_w5 => ?_); obtain ⟨ck_w5, fk_w5, zk_w5⟩ := blk k_w5; refine have_then (P := w5.heap[w.heap.size + 1]? = some (.cells #[.int .i64 3, .int .i64 ln, .int .i64 v] 65)) ((hb_w5.block _ byS).trans byH) (fun a_w5 => ?_); obtain ⟨ca_w5, fa_w5, za_w5⟩ := blk a_w5; refine have_then (P := w5.heap[w1.heap.size]? = some (.cells #[.slice A1 X.length n1] 63)) ((hb_w5.block _ byS).trans byH) (fun x_w5 => ?_); obtain ⟨cx_w5, fx_w5, zx_w5⟩ := blk x_w5; refine have_then (P := w5.heap[w4.heap.size]? = some (.cells #[.slice none 0 0] 63)) ((hb_w5.block _ byS).trans byH) (fun q_w5 => ?_); obtain ⟨cq_w5, fq_w5, zq_w5⟩ := blk q_w5; refine have_then (P := Below w.heap.size w w5) byB (fun h_w5 => ?_); have s_w5 := Below.size h_w5; have t_w5 := Below.size hb_w5; (try simp at t_w5); revert hb_w5; intro hb_w5; clear k_w4 ck_w4 fk_w4 a_w4 ca_w4 fa_w4 x_w4 cx_w4 fx_w4)
  go_wp2_with fail
  (go_at_call 29; refine (H6.out _ byB).mono ?_; rintro e w6 ⟨A6, n6, rfl, hO6, hb_w6⟩; refine have_then (P := w6.heap[w.heap.size]? = some (.cells #[.slice A k.length n] 63)) ((hb_w6.block _ byS).trans byH) (fun k_w6 => ?_); obtain ⟨ck_w6, fk_w6, zk_w6⟩ := blk k_w6; refine have_then (P := w6.heap[w.heap.size + 1]? = some (.cells #[.int .i64 3, .int .i64 ln, .int .i64 v] 65)) ((hb_w6.block _ byS).trans byH) (fun a_w6 => ?_); obtain ⟨ca_w6, fa_w6, za_w6⟩ := blk a_w6; refine have_then (P := w6.heap[w1.heap.size]? = some (.cells #[.slice A1 X.length n1] 63)) ((hb_w6.block _ byS).trans byH) (fun x_w6 => ?_); obtain ⟨cx_w6, fx_w6, zx_w6⟩ := blk x_w6; refine have_then (P := w6.heap[w4.heap.size]? = some (.cells #[.slice A k.length n] 63)) ((hb_w6.block _ byS).trans byH) (fun q2_w6 => ?_); obtain ⟨cq2_w6, fq2_w6, zq2_w6⟩ := blk q2_w6; refine have_then (P := Below w.heap.size w w6) byB (fun h_w6 => ?_); have s_w6 := Below.size h_w6; have t_w6 := Below.size hb_w6; (try simp at t_w6); revert hb_w6; intro hb_w6; clear k_w5 ck_w5 fk_w5 a_w5 ca_w5 fa_w5 x_w5 cx_w5 fx_w5)
  have hx6 : Sl cWay.slice (Rng w5.heap.size w6.heap.size) w6 A6 n6 X := (OSl.read hO6).mono fun b hb => ⟨by have := hb.1; simp at this; omega, hb.2⟩
  clear hO6
  go_wp2_with fail
  (go_at_call 30; refine (HB.out _).mono ?_; rintro e w7 ⟨rfl, hb_w7⟩; refine have_then (P := w7.heap[w.heap.size]? = some (.cells #[.slice A k.length n] 63)) ((hb_w7.block _ byS).trans byH) (fun k_w7 => ?_); obtain ⟨ck_w7, fk_w7, zk_w7⟩ := blk k_w7; refine have_then (P := w7.heap[w.heap.size + 1]? = some (.cells #[.int .i64 3, .int .i64 ln, .int .i64 v] 65)) ((hb_w7.block _ byS).trans byH) (fun a_w7 => ?_); obtain ⟨ca_w7, fa_w7, za_w7⟩ := blk a_w7; refine have_then (P := w7.heap[w1.heap.size]? = some (.cells #[.slice A1 X.length n1] 63)) ((hb_w7.block _ byS).trans byH) (fun x_w7 => ?_); obtain ⟨cx_w7, fx_w7, zx_w7⟩ := blk x_w7; refine have_then (P := w7.heap[w4.heap.size]? = some (.cells #[.slice A6 X.length n6] 63)) ((hb_w7.block _ byS).trans byH) (fun q3_w7 => ?_); obtain ⟨cq3_w7, fq3_w7, zq3_w7⟩ := blk q3_w7; refine have_then (P := Below w.heap.size w w7) byB (fun h_w7 => ?_); have s_w7 := Below.size h_w7; have t_w7 := Below.size hb_w7; (try simp at t_w7); revert hb_w7; intro hb_w7; clear k_w6 ck_w6 fk_w6 a_w6 ca_w6 fa_w6 x_w6 cx_w6 fx_w6)
  have hx7 : Sl cWay.slice (Low w7.heap.size) w7 A1 n1 X := (hx1.next (Nat.le_refl _) byB).up byS
  have hy7 : Sl cWay.slice (Low w7.heap.size) w7 A6 n6 X := (hx6.keepI byI).mono fun b hb => Nat.lt_of_lt_of_le hb.2 byS
  have HI := Lib.hid (lawCacheIs X X 0 0 A1 A6 n1 n6 w7.heap.size w7 (Nat.le_refl _) hx7 hy7 HX.out)
  rw [cacheIs_true rfl ((by rw [if_pos rfl]))] at HI
  clear hx1 hx7 hy7 hx6
  go_wp2_with fail
  go_at_call 31
  refine HI.out.mono ?_
  rintro e w8 ⟨rfl, hb8⟩
  go_wp2_with fail
  go_ret
  exact ⟨rfl, h_w7.trans (hb8.mono s_w7)⟩

theorem lawWindowCosts_d (k : List (List TWay)) (A : Option Addr) (n : Nat) (kd ln v : Int) (B : Nat) (w : World) (hB : B ≤ w.heap.size) (hs : Sl cWay.slice (Low B) w A n k) (e1 : checkCache k = 0) (e2 : actErr ⟨kd, ln, v⟩ = 0) (h23 : kd ≠ 2 ∧ kd ≠ 3) :
    Calls Try.prog 6 #[.agg #[.slice A k.length n], .agg #[.int .i64 kd, .int .i64 ln, .int .i64 v]] w fun en w' => en = .returned (.bool true) ∧ Below w.heap.size w w' := by
  have HB := Lib.hid lawWindowBegun
  have H1 := Lib.hid (fun W (h : Below w.heap.size w W) => windowCost k ⟨kd, ln, v⟩ A n B W (Nat.le_trans hB h.size) (hs.next hB h))
  have H2 := Lib.hid (fun W => windowWorstE ⟨kd, ln, v⟩ W)
  have H3 := Lib.hid (fun W => refCheckAction ⟨kd, ln, v⟩ W)
  have H4 := Lib.hid (fun W (h : Below w.heap.size w W) => refCheckCache k A n B W (Nat.le_trans hB h.size) (hs.next hB h))
  have ok := checkCache_ok.1 e1
  have ha := actErr_zero.1 e2
  have hsp := spend_bd (k := k) ha
  have hE : costErr k ⟨kd, ln, v⟩ = 0 := by unfold costErr; rw [if_neg (by simp [e1]), e2]
  rw [show costN k ⟨kd, ln, v⟩ = spendN k ⟨kd, ln, v⟩ by unfold costN; rw [if_pos hE], show costRes k ⟨kd, ln, v⟩ = spendK k ⟨kd, ln, v⟩ by unfold costRes; rw [if_pos hE], hE] at H1
  clear hE
  rw [if_pos e2, e2] at H2
  rw [e2] at H3
  have H5 := Lib.hid (fun W => refWorstOf ⟨kd, ln, v⟩ W)
  rw [e1] at H4
  have HX := Lib.hid (cache_small (spendK_ok (k := k) (a := ⟨kd, ln, v⟩) ok ha))
  have hkd : kd ≠ 2 ∧ kd ≠ 3 := h23
  have bk2 : (kd == 2) = false := by simp [hkd.1]
  have bk3 : (kd == 3) = false := by simp [hkd.2]
  have hY := show spendK k ⟨kd, ln, v⟩ = k by simp [spendK, isMem, hkd.1, hkd.2]
  have hN := show spendN k ⟨kd, ln, v⟩ = worstA ⟨kd, ln, v⟩ by simp [spendN, isMem, hkd.1, hkd.2]
  rw [hY, hN] at H1
  rw [hY] at HX
  clear hkd hY hN
  generalize worstA ⟨kd, ln, v⟩ = M at *
  clear ok ha
  have m1 : ¬ M < 0 := by omega
  have m2 : decide (M < 0) = false := by simp; omega
  have m3 : decide (0 < M) = true := by simp; omega
  clear e1
  clear e2
  have hsl := Lib.hid hs
  have hcap := hs.cap
  have hmx := hs.max
  unfold maxLen at hmx
  clear hs
  dsimp only at H1 H2 H3 H5
  go_enter Try.func6, Try.ntmps6
  go_wp2_with fail
  (go_at_call 24; refine (H1.out _ byB).mono ?_; rintro e w1 ⟨A1, n1, rfl, hO1, hb_w1⟩; refine have_then (P := w1.heap[w.heap.size]? = some (.cells #[.slice A k.length n] 63)) ((hb_w1.block _ byS).trans byH) (fun k_w1 => ?_); obtain ⟨ck_w1, fk_w1, zk_w1⟩ := blk k_w1; refine have_then (P := w1.heap[w.heap.size + 1]? = some (.cells #[.int .i64 kd, .int .i64 ln, .int .i64 v] 65)) ((hb_w1.block _ byS).trans byH) (fun a_w1 => ?_); obtain ⟨ca_w1, fa_w1, za_w1⟩ := blk a_w1; refine have_then (P := Below w.heap.size w w1) byB (fun h_w1 => ?_); have s_w1 := Below.size h_w1; have t_w1 := Below.size hb_w1; (try simp at t_w1); revert hb_w1; intro hb_w1)
  have hx1 : Sl cWay.slice (Low w1.heap.size) w1 A1 n1 k := (OSl.read hO1).mono fun b hb => hb.2
  clear hO1
  go_wp2_with fail
  (go_at_call 25; refine (H2.out _).mono ?_; rintro e w2 ⟨rfl, hb_w2⟩; refine have_then (P := w2.heap[w.heap.size]? = some (.cells #[.slice A k.length n] 63)) ((hb_w2.block _ byS).trans byH) (fun k_w2 => ?_); obtain ⟨ck_w2, fk_w2, zk_w2⟩ := blk k_w2; refine have_then (P := w2.heap[w.heap.size + 1]? = some (.cells #[.int .i64 kd, .int .i64 ln, .int .i64 v] 65)) ((hb_w2.block _ byS).trans byH) (fun a_w2 => ?_); obtain ⟨ca_w2, fa_w2, za_w2⟩ := blk a_w2; refine have_then (P := w2.heap[w1.heap.size]? = some (.cells #[.slice A1 k.length n1] 63)) ((hb_w2.block _ byS).trans byH) (fun x_w2 => ?_); obtain ⟨cx_w2, fx_w2, zx_w2⟩ := blk x_w2; refine have_then (P := Below w.heap.size w w2) byB (fun h_w2 => ?_); have s_w2 := Below.size h_w2; have t_w2 := Below.size hb_w2; (try simp at t_w2); revert hb_w2; intro hb_w2; clear k_w1 ck_w1 fk_w1 a_w1 ca_w1 fa_w1)
  go_wp2_with fail
  (go_at_call 26; refine (H3.out _).mono ?_; rintro e w3 ⟨rfl, hb_w3⟩; refine have_then (P := w3.heap[w.heap.size]? = some (.cells #[.slice A k.length n] 63)) ((hb_w3.block _ byS).trans byH) (fun k_w3 => ?_); obtain ⟨ck_w3, fk_w3, zk_w3⟩ := blk k_w3; refine have_then (P := w3.heap[w.heap.size + 1]? = some (.cells #[.int .i64 kd, .int .i64 ln, .int .i64 v] 65)) ((hb_w3.block _ byS).trans byH) (fun a_w3 => ?_); obtain ⟨ca_w3, fa_w3, za_w3⟩ := blk a_w3; refine have_then (P := w3.heap[w1.heap.size]? = some (.cells #[.slice A1 k.length n1] 63)) ((hb_w3.block _ byS).trans byH) (fun x_w3 => ?_); obtain ⟨cx_w3, fx_w3, zx_w3⟩ := blk x_w3; refine have_then (P := Below w.heap.size w w3) byB (fun h_w3 => ?_); have s_w3 := Below.size h_w3; have t_w3 := Below.size hb_w3; (try simp at t_w3); revert hb_w3; intro hb_w3; clear k_w2 ck_w2 fk_w2 a_w2 ca_w2 fa_w2 x_w2 cx_w2 fx_w2)
  go_wp2_with fail
  (go_at_call 27; refine (H4.out _ byB).mono ?_; rintro e w4 ⟨rfl, hb_w4⟩; refine have_then (P := w4.heap[w.heap.size]? = some (.cells #[.slice A k.length n] 63)) ((hb_w4.block _ byS).trans byH) (fun k_w4 => ?_); obtain ⟨ck_w4, fk_w4, zk_w4⟩ := blk k_w4; refine have_then (P := w4.heap[w.heap.size + 1]? = some (.cells #[.int .i64 kd, .int .i64 ln, .int .i64 v] 65)) ((hb_w4.block _ byS).trans byH) (fun a_w4 => ?_); obtain ⟨ca_w4, fa_w4, za_w4⟩ := blk a_w4; refine have_then (P := w4.heap[w1.heap.size]? = some (.cells #[.slice A1 k.length n1] 63)) ((hb_w4.block _ byS).trans byH) (fun x_w4 => ?_); obtain ⟨cx_w4, fx_w4, zx_w4⟩ := blk x_w4; refine have_then (P := Below w.heap.size w w4) byB (fun h_w4 => ?_); have s_w4 := Below.size h_w4; have t_w4 := Below.size hb_w4; (try simp at t_w4); revert hb_w4; intro hb_w4; clear k_w3 ck_w3 fk_w3 a_w3 ca_w3 fa_w3 x_w3 cx_w3 fx_w3)
  go_wp2_with fail
  (go_at_call 28; refine (H5.out _).mono ?_; rintro e w5 ⟨rfl, hb_w5⟩; refine have_then (P := w5.heap[w.heap.size]? = some (.cells #[.slice A k.length n] 63)) ((hb_w5.block _ byS).trans byH) (fun k_w5 => ?_); obtain ⟨ck_w5, fk_w5, zk_w5⟩ := blk k_w5; refine have_then (P := w5.heap[w.heap.size + 1]? = some (.cells #[.int .i64 kd, .int .i64 ln, .int .i64 v] 65)) ((hb_w5.block _ byS).trans byH) (fun a_w5 => ?_); obtain ⟨ca_w5, fa_w5, za_w5⟩ := blk a_w5; refine have_then (P := w5.heap[w1.heap.size]? = some (.cells #[.slice A1 k.length n1] 63)) ((hb_w5.block _ byS).trans byH) (fun x_w5 => ?_); obtain ⟨cx_w5, fx_w5, zx_w5⟩ := blk x_w5; refine have_then (P := w5.heap[w4.heap.size]? = some (.cells #[.slice none 0 0] 63)) ((hb_w5.block _ byS).trans byH) (fun q_w5 => ?_); obtain ⟨cq_w5, fq_w5, zq_w5⟩ := blk q_w5; refine have_then (P := Below w.heap.size w w5) byB (fun h_w5 => ?_); have s_w5 := Below.size h_w5; have t_w5 := Below.size hb_w5; (try simp at t_w5); revert hb_w5; intro hb_w5; clear k_w4 ck_w4 fk_w4 a_w4 ca_w4 fa_w4 x_w4 cx_w4 fx_w4)
  go_wp2_with fail
  (go_at_call 30; refine (HB.out _).mono ?_; rintro e w7 ⟨rfl, hb_w7⟩; refine have_then (P := w7.heap[w.heap.size]? = some (.cells #[.slice A k.length n] 63)) ((hb_w7.block _ byS).trans byH) (fun k_w7 => ?_); obtain ⟨ck_w7, fk_w7, zk_w7⟩ := blk k_w7; refine have_then (P := w7.heap[w.heap.size + 1]? = some (.cells #[.int .i64 kd, .int .i64 ln, .int .i64 v] 65)) ((hb_w7.block _ byS).trans byH) (fun a_w7 => ?_); obtain ⟨ca_w7, fa_w7, za_w7⟩ := blk a_w7; refine have_then (P := w7.heap[w1.heap.size]? = some (.cells #[.slice A1 k.length n1] 63)) ((hb_w7.block _ byS).trans byH) (fun x_w7 => ?_); obtain ⟨cx_w7, fx_w7, zx_w7⟩ := blk x_w7; refine have_then (P := w7.heap[w4.heap.size]? = some (.cells #[.slice A k.length n] 63)) ((hb_w7.block _ byS).trans byH) (fun q2_w7 => ?_); obtain ⟨cq2_w7, fq2_w7, zq2_w7⟩ := blk q2_w7; refine have_then (P := Below w.heap.size w w7) byB (fun h_w7 => ?_); have s_w7 := Below.size h_w7; have t_w7 := Below.size hb_w7; (try simp at t_w7); revert hb_w7; intro hb_w7; clear k_w5 ck_w5 fk_w5 a_w5 ca_w5 fa_w5 x_w5 cx_w5 fx_w5)
  have hx7 : Sl cWay.slice (Low w7.heap.size) w7 A1 n1 k := (hx1.next (Nat.le_refl _) byB).up byS
  have hy7 : Sl cWay.slice (Low w7.heap.size) w7 A n k := (hsl.out.next hB h_w7).up (Nat.le_trans hB s_w7)
  have HI := Lib.hid (lawCacheIs k k 0 0 A1 A n1 n w7.heap.size w7 (Nat.le_refl _) hx7 hy7 HX.out)
  rw [cacheIs_true rfl ((by rw [if_pos rfl]))] at HI
  clear hx1 hx7 hy7
  go_wp2_with fail
  go_at_call 31
  refine HI.out.mono ?_
  rintro e w8 ⟨rfl, hb8⟩
  go_wp2_with fail
  go_ret
  exact ⟨rfl, h_w7.trans (hb8.mono s_w7)⟩

theorem lawWindowCosts (k : List (List TWay)) (A : Option Addr) (n : Nat) (a : TAct) (B : Nat) (w : World) (hB : B ≤ w.heap.size) (hs : Sl cWay.slice (Low B) w A n k) :
    Calls Try.prog 6 #[.agg #[.slice A k.length n], .agg (TAct.cells a).toArray] w fun en w' => en = .returned (.bool true) ∧ Below w.heap.size w w' := by
  obtain ⟨kd, ln, v⟩ := a
  show Calls Try.prog 6 #[.agg #[.slice A k.length n], .agg #[.int .i64 kd, .int .i64 ln, .int .i64 v]] w _
  by_cases e1 : checkCache k = 0
  · by_cases e2 : actErr ⟨kd, ln, v⟩ = 0
    · by_cases h2 : kd = 2
      · subst h2; exact lawWindowCosts_c2 k A n ln ln v B w hB hs e1 e2
      · by_cases h3 : kd = 3
        · subst h3; exact lawWindowCosts_c3 k A n ln ln v B w hB hs e1 e2
        · exact lawWindowCosts_d k A n kd ln v B w hB hs e1 e2 ⟨h2, h3⟩
    · exact lawWindowCosts_b k A n kd ln v B w hB hs e1 e2
  · by_cases e2 : actErr ⟨kd, ln, v⟩ = 0
    · exact lawWindowCosts_a0 k A n kd ln v B w hB hs e1 e2
    · exact lawWindowCosts_a1 k A n kd ln v B w hB hs e1 e2
end Go.Proofs.Ytinlmkhlgclbfab
