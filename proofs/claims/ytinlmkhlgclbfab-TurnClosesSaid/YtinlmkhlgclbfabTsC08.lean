/- LawTurnC -/
import Derived.Test.YtinlmkhlgclbfabTsC05
import Derived.Test.YtinlmkhlgclbfabTsC07
import Derived.Test.YtinlmkhlgclbfabTsA36
namespace Go.Proofs.Ytinlmkhlgclbfab
open Go.RowKit
set_option maxRecDepth 100000
set_option maxHeartbeats 8000000

theorem firstE_stay {f : Nat → Int} {i : Nat} (h : firstE i f ≠ 0) : ∀ n, i ≤ n → firstE n f = firstE i f := by
  intro n
  induction n with
  | zero => intro hi; have : i = 0 := by omega
            subst this; rfl
  | succ n ih =>
    intro hi
    by_cases e : i = n + 1
    · rw [e]
    · have h1 := ih (by omega)
      show (if firstE n f = 0 then f n else firstE n f) = _
      rw [if_neg (by rw [h1]; exact h), h1]
theorem firstE_next {f : Nat → Int} {i : Nat} (h : firstE i f = 0) : firstE (i + 1) f = f i := by
  show (if firstE i f = 0 then f i else firstE i f) = _
  rw [if_pos h]

theorem lawTurnCloses_a (c : TCfg) (S : TCfgS) (ds : List TDom) (A : Option Addr) (n : Nat) (s : Int) (hz : ∀ k, k < ds.length → DomSz (nth ds k)) (B : Nat) (w : World) (hB : B ≤ w.heap.size) (hs : TCfg.At (Low B) w c S) (hd : Sl cDom (Low B) w A n ds) (e1 : checkConfig c ≠ 0) :
    Calls Try.prog 5 #[.agg #[.int .i64 c.sets, .int .i64 c.ways, .int .i64 c.doms, .int .i64 c.pad, .int .i64 c.quantum, .slice S.a0 c.slots.length S.n0, .slice S.a1 c.owners.length S.n1, .slice S.a2 c.chans.length S.n2, .slice S.a3 c.tasks.length S.n3], .slice A ds.length n, .int .i64 s] w fun en w' => en = .returned (.bool true) ∧ Below w.heap.size w w' := by
  have H1 := Lib.hid (fun W (h : Below w.heap.size w W) => turnClose c S ds A n s hz B W (Nat.le_trans hB h.size) (hs.next hB h) (hd.next hB h))
  have H2 := Lib.hid (fun W (h : Below w.heap.size w W) => refCheckConfig c S B W (Nat.le_trans hB h.size) (hs.next hB h))
  have H6 := Lib.hid (fun W => lawTurnBegun W)
  have md := Nat.le_trans hd.cap hd.max
  unfold maxLen at md
  have R : closeErr c ds s = checkConfig c := by unfold closeErr; rw [if_pos e1]
  have R2 : closeRes c ds s = [] := by unfold closeRes; rw [if_neg (by rw [R]; exact e1)]
  rw [R, R2] at H1
  have b1 : (checkConfig c == 0) = false := by simp [e1]
  have HD := Lib.hid (fun (A1 : Option Addr) (n1 : Nat) W (h : Sl cDom (Low W.heap.size) W A1 n1 []) => refSameDomains [] A1 none n1 0 W.heap.size W (Nat.le_refl _) h (Sl.empty _ _ _))
  clear e1 hs hd R R2
  generalize checkConfig c = CE at *
  go_enter Try.func5, Try.ntmps5
  go_wp2_with fail
  (go_at_call 21; refine (H1.out _ byB).mono ?_; rintro e w1 ⟨A1, n1, rfl, hO1, hb_w1⟩; refine have_then (P := w1.heap[w.heap.size]? = some (.cells #[.int .i64 c.sets, .int .i64 c.ways, .int .i64 c.doms, .int .i64 c.pad, .int .i64 c.quantum, .slice S.a0 c.slots.length S.n0, .slice S.a1 c.owners.length S.n1, .slice S.a2 c.chans.length S.n2, .slice S.a3 c.tasks.length S.n3] 27)) ((hb_w1.block _ byS).trans byH) (fun c_w1 => ?_); obtain ⟨cc_w1, fc_w1, zc_w1⟩ := blk c_w1; refine have_then (P := Below w.heap.size w w1) byB (fun h_w1 => ?_); have s_w1 := Below.size h_w1; have t_w1 := Below.size hb_w1; (try simp at t_w1); revert hb_w1; intro hb_w1)
  have hx1 := hO1.at.mono (J := Low w1.heap.size) (fun b hb => hb.2)
  replace hx1 := Lib.hid hx1
  clear hO1
  go_wp2_with fail
  (go_at_call 12; refine (H2.out _ byB).mono ?_; rintro e w2 ⟨rfl, hb_w2⟩; refine have_then (P := w2.heap[w.heap.size]? = some (.cells #[.int .i64 c.sets, .int .i64 c.ways, .int .i64 c.doms, .int .i64 c.pad, .int .i64 c.quantum, .slice S.a0 c.slots.length S.n0, .slice S.a1 c.owners.length S.n1, .slice S.a2 c.chans.length S.n2, .slice S.a3 c.tasks.length S.n3] 27)) ((hb_w2.block _ byS).trans byH) (fun c_w2 => ?_); obtain ⟨cc_w2, fc_w2, zc_w2⟩ := blk c_w2; refine have_then (P := Below w.heap.size w w2) byB (fun h_w2 => ?_); have s_w2 := Below.size h_w2; have t_w2 := Below.size hb_w2; (try simp at t_w2); revert hb_w2; intro hb_w2; clear c_w1 cc_w1 fc_w1)
  go_wp2_with fail
  go_loopw [9, 10] (fun ev iv wr => ev = .int .i64 CE ∧ iv = .int .i64 0 ∧ Below w.heap.size w wr ∧ Below w1.heap.size w1 wr) (fun _ iv _ => 0)
  case atStart => exact ⟨rfl, rfl, h_w2, byB⟩
  case round =>
    obtain ⟨rfl, rfl, h_r, hb_r⟩ := hrel
    have s_r := Below.size h_r
    have t_r := Below.size hb_r
    revert hb_r; intro hb_r
    by_cases hlt : 0 < ds.length
    all_goals
      go_wp2_with fail
      (go_at_call 15; refine (H6.out _).mono ?_; rintro e w4 ⟨rfl, hb_w4⟩; refine have_then (P := Below w.heap.size w w4) byB (fun h_w4 => ?_); have s_w4 := Below.size h_w4; have t_w4 := Below.size hb_w4; (try simp at t_w4); revert hb_w4; intro hb_w4)
      go_wp2_with fail
      go_at_call 23
      refine (HD.out A1 n1 _ ((hx1.out.next (Nat.le_refl _) byB).up byS)).mono ?_
      rintro e w5 ⟨rfl, hb5⟩
      have h5 : Below w.heap.size w w5 := byB
      go_wp2_with fail
      go_ret
      exact ⟨rfl, h5⟩

theorem lawTurnCloses_b (c : TCfg) (S : TCfgS) (ds : List TDom) (A : Option Addr) (n : Nat) (s : Int) (hz : ∀ k, k < ds.length → DomSz (nth ds k)) (B : Nat) (w : World) (hB : B ≤ w.heap.size) (hs : TCfg.At (Low B) w c S) (hd : Sl cDom (Low B) w A n ds) (e1 : checkConfig c = 0) (e2 : s < 0) :
    Calls Try.prog 5 #[.agg #[.int .i64 c.sets, .int .i64 c.ways, .int .i64 c.doms, .int .i64 c.pad, .int .i64 c.quantum, .slice S.a0 c.slots.length S.n0, .slice S.a1 c.owners.length S.n1, .slice S.a2 c.chans.length S.n2, .slice S.a3 c.tasks.length S.n3], .slice A ds.length n, .int .i64 s] w fun en w' => en = .returned (.bool true) ∧ Below w.heap.size w w' := by
  have H1 := Lib.hid (fun W (h : Below w.heap.size w W) => turnClose c S ds A n s hz B W (Nat.le_trans hB h.size) (hs.next hB h) (hd.next hB h))
  have H2 := Lib.hid (fun W (h : Below w.heap.size w W) => refCheckConfig c S B W (Nat.le_trans hB h.size) (hs.next hB h))
  have H6 := Lib.hid (fun W => lawTurnBegun W)
  have md := Nat.le_trans hd.cap hd.max
  unfold maxLen at md
  have R : closeErr c ds s = 5 := by unfold closeErr; rw [if_neg (by simp [e1]), if_pos (by omega)]
  have R2 : closeRes c ds s = [] := by unfold closeRes; rw [if_neg (by rw [R]; decide)]
  rw [R, R2] at H1
  rw [e1] at H2
  have b3 : decide (s < 0) = true := by simpa using e2
  have HD := Lib.hid (fun (A1 : Option Addr) (n1 : Nat) W (h : Sl cDom (Low W.heap.size) W A1 n1 []) => refSameDomains [] A1 none n1 0 W.heap.size W (Nat.le_refl _) h (Sl.empty _ _ _))
  clear e1 hs hd R R2
  go_enter Try.func5, Try.ntmps5
  go_wp2_with fail
  (go_at_call 21; refine (H1.out _ byB).mono ?_; rintro e w1 ⟨A1, n1, rfl, hO1, hb_w1⟩; refine have_then (P := w1.heap[w.heap.size]? = some (.cells #[.int .i64 c.sets, .int .i64 c.ways, .int .i64 c.doms, .int .i64 c.pad, .int .i64 c.quantum, .slice S.a0 c.slots.length S.n0, .slice S.a1 c.owners.length S.n1, .slice S.a2 c.chans.length S.n2, .slice S.a3 c.tasks.length S.n3] 27)) ((hb_w1.block _ byS).trans byH) (fun c_w1 => ?_); obtain ⟨cc_w1, fc_w1, zc_w1⟩ := blk c_w1; refine have_then (P := Below w.heap.size w w1) byB (fun h_w1 => ?_); have s_w1 := Below.size h_w1; have t_w1 := Below.size hb_w1; (try simp at t_w1); revert hb_w1; intro hb_w1)
  have hx1 := hO1.at.mono (J := Low w1.heap.size) (fun b hb => hb.2)
  replace hx1 := Lib.hid hx1
  clear hO1
  go_wp2_with fail
  (go_at_call 12; refine (H2.out _ byB).mono ?_; rintro e w2 ⟨rfl, hb_w2⟩; refine have_then (P := w2.heap[w.heap.size]? = some (.cells #[.int .i64 c.sets, .int .i64 c.ways, .int .i64 c.doms, .int .i64 c.pad, .int .i64 c.quantum, .slice S.a0 c.slots.length S.n0, .slice S.a1 c.owners.length S.n1, .slice S.a2 c.chans.length S.n2, .slice S.a3 c.tasks.length S.n3] 27)) ((hb_w2.block _ byS).trans byH) (fun c_w2 => ?_); obtain ⟨cc_w2, fc_w2, zc_w2⟩ := blk c_w2; refine have_then (P := Below w.heap.size w w2) byB (fun h_w2 => ?_); have s_w2 := Below.size h_w2; have t_w2 := Below.size hb_w2; (try simp at t_w2); revert hb_w2; intro hb_w2; clear c_w1 cc_w1 fc_w1)
  go_wp2_with fail
  go_loopw [9, 10] (fun ev iv wr => ev = .int .i64 5 ∧ iv = .int .i64 0 ∧ Below w.heap.size w wr ∧ Below w1.heap.size w1 wr) (fun _ iv _ => 0)
  case atStart => exact ⟨rfl, rfl, h_w2, byB⟩
  case round =>
    obtain ⟨rfl, rfl, h_r, hb_r⟩ := hrel
    have s_r := Below.size h_r
    have t_r := Below.size hb_r
    revert hb_r; intro hb_r
    by_cases hlt : 0 < ds.length
    all_goals
      go_wp2_with fail
      (go_at_call 15; refine (H6.out _).mono ?_; rintro e w4 ⟨rfl, hb_w4⟩; refine have_then (P := Below w.heap.size w w4) byB (fun h_w4 => ?_); have s_w4 := Below.size h_w4; have t_w4 := Below.size hb_w4; (try simp at t_w4); revert hb_w4; intro hb_w4)
      go_wp2_with fail
      go_at_call 23
      refine (HD.out A1 n1 _ ((hx1.out.next (Nat.le_refl _) byB).up byS)).mono ?_
      rintro e w5 ⟨rfl, hb5⟩
      have h5 : Below w.heap.size w w5 := byB
      go_wp2_with fail
      go_ret
      exact ⟨rfl, h5⟩

theorem lawTurnCloses_c (c : TCfg) (S : TCfgS) (ds : List TDom) (A : Option Addr) (n : Nat) (s : Int) (hz : ∀ k, k < ds.length → DomSz (nth ds k)) (B : Nat) (w : World) (hB : B ≤ w.heap.size) (hs : TCfg.At (Low B) w c S) (hd : Sl cDom (Low B) w A n ds) (e1 : checkConfig c = 0) (e2 : 0 ≤ s) (e3 : (c.slots.length : Int) ≤ s) :
    Calls Try.prog 5 #[.agg #[.int .i64 c.sets, .int .i64 c.ways, .int .i64 c.doms, .int .i64 c.pad, .int .i64 c.quantum, .slice S.a0 c.slots.length S.n0, .slice S.a1 c.owners.length S.n1, .slice S.a2 c.chans.length S.n2, .slice S.a3 c.tasks.length S.n3], .slice A ds.length n, .int .i64 s] w fun en w' => en = .returned (.bool true) ∧ Below w.heap.size w w' := by
  have H1 := Lib.hid (fun W (h : Below w.heap.size w W) => turnClose c S ds A n s hz B W (Nat.le_trans hB h.size) (hs.next hB h) (hd.next hB h))
  have H2 := Lib.hid (fun W (h : Below w.heap.size w W) => refCheckConfig c S B W (Nat.le_trans hB h.size) (hs.next hB h))
  have H6 := Lib.hid (fun W => lawTurnBegun W)
  have md := Nat.le_trans hd.cap hd.max
  unfold maxLen at md
  have R : closeErr c ds s = 5 := by unfold closeErr; rw [if_neg (by simp [e1]), if_pos (by omega)]
  have R2 : closeRes c ds s = [] := by unfold closeRes; rw [if_neg (by rw [R]; decide)]
  rw [R, R2] at H1
  rw [e1] at H2
  have b3 : decide (s < 0) = false := by simp; omega
  have b4 : decide (s ≥ (c.slots.length : Int)) = true := by simpa using e3
  have HD := Lib.hid (fun (A1 : Option Addr) (n1 : Nat) W (h : Sl cDom (Low W.heap.size) W A1 n1 []) => refSameDomains [] A1 none n1 0 W.heap.size W (Nat.le_refl _) h (Sl.empty _ _ _))
  clear e1 hs hd R R2
  go_enter Try.func5, Try.ntmps5
  go_wp2_with fail
  (go_at_call 21; refine (H1.out _ byB).mono ?_; rintro e w1 ⟨A1, n1, rfl, hO1, hb_w1⟩; refine have_then (P := w1.heap[w.heap.size]? = some (.cells #[.int .i64 c.sets, .int .i64 c.ways, .int .i64 c.doms, .int .i64 c.pad, .int .i64 c.quantum, .slice S.a0 c.slots.length S.n0, .slice S.a1 c.owners.length S.n1, .slice S.a2 c.chans.length S.n2, .slice S.a3 c.tasks.length S.n3] 27)) ((hb_w1.block _ byS).trans byH) (fun c_w1 => ?_); obtain ⟨cc_w1, fc_w1, zc_w1⟩ := blk c_w1; refine have_then (P := Below w.heap.size w w1) byB (fun h_w1 => ?_); have s_w1 := Below.size h_w1; have t_w1 := Below.size hb_w1; (try simp at t_w1); revert hb_w1; intro hb_w1)
  have hx1 := hO1.at.mono (J := Low w1.heap.size) (fun b hb => hb.2)
  replace hx1 := Lib.hid hx1
  clear hO1
  go_wp2_with fail
  (go_at_call 12; refine (H2.out _ byB).mono ?_; rintro e w2 ⟨rfl, hb_w2⟩; refine have_then (P := w2.heap[w.heap.size]? = some (.cells #[.int .i64 c.sets, .int .i64 c.ways, .int .i64 c.doms, .int .i64 c.pad, .int .i64 c.quantum, .slice S.a0 c.slots.length S.n0, .slice S.a1 c.owners.length S.n1, .slice S.a2 c.chans.length S.n2, .slice S.a3 c.tasks.length S.n3] 27)) ((hb_w2.block _ byS).trans byH) (fun c_w2 => ?_); obtain ⟨cc_w2, fc_w2, zc_w2⟩ := blk c_w2; refine have_then (P := Below w.heap.size w w2) byB (fun h_w2 => ?_); have s_w2 := Below.size h_w2; have t_w2 := Below.size hb_w2; (try simp at t_w2); revert hb_w2; intro hb_w2; clear c_w1 cc_w1 fc_w1)
  go_wp2_with fail
  go_loopw [9, 10] (fun ev iv wr => ev = .int .i64 5 ∧ iv = .int .i64 0 ∧ Below w.heap.size w wr ∧ Below w1.heap.size w1 wr) (fun _ iv _ => 0)
  case atStart => exact ⟨rfl, rfl, h_w2, byB⟩
  case round =>
    obtain ⟨rfl, rfl, h_r, hb_r⟩ := hrel
    have s_r := Below.size h_r
    have t_r := Below.size hb_r
    revert hb_r; intro hb_r
    by_cases hlt : 0 < ds.length
    all_goals
      go_wp2_with fail
      (go_at_call 15; refine (H6.out _).mono ?_; rintro e w4 ⟨rfl, hb_w4⟩; refine have_then (P := Below w.heap.size w w4) byB (fun h_w4 => ?_); have s_w4 := Below.size h_w4; have t_w4 := Below.size hb_w4; (try simp at t_w4); revert hb_w4; intro hb_w4)
      go_wp2_with fail
      go_at_call 23
      refine (HD.out A1 n1 _ ((hx1.out.next (Nat.le_refl _) byB).up byS)).mono ?_
      rintro e w5 ⟨rfl, hb5⟩
      have h5 : Below w.heap.size w w5 := byB
      go_wp2_with fail
      go_ret
      exact ⟨rfl, h5⟩

theorem lawTurnCloses_d (c : TCfg) (S : TCfgS) (ds : List TDom) (A : Option Addr) (n : Nat) (s : Int) (hz : ∀ k, k < ds.length → DomSz (nth ds k)) (B : Nat) (w : World) (hB : B ≤ w.heap.size) (hs : TCfg.At (Low B) w c S) (hd : Sl cDom (Low B) w A n ds) (e1 : checkConfig c = 0) (e2 : 0 ≤ s) (e3 : s < (c.slots.length : Int)) (e4 : (ds.length : Int) ≠ c.doms) :
    Calls Try.prog 5 #[.agg #[.int .i64 c.sets, .int .i64 c.ways, .int .i64 c.doms, .int .i64 c.pad, .int .i64 c.quantum, .slice S.a0 c.slots.length S.n0, .slice S.a1 c.owners.length S.n1, .slice S.a2 c.chans.length S.n2, .slice S.a3 c.tasks.length S.n3], .slice A ds.length n, .int .i64 s] w fun en w' => en = .returned (.bool true) ∧ Below w.heap.size w w' := by
  have H1 := Lib.hid (fun W (h : Below w.heap.size w W) => turnClose c S ds A n s hz B W (Nat.le_trans hB h.size) (hs.next hB h) (hd.next hB h))
  have H2 := Lib.hid (fun W (h : Below w.heap.size w W) => refCheckConfig c S B W (Nat.le_trans hB h.size) (hs.next hB h))
  have H6 := Lib.hid (fun W => lawTurnBegun W)
  have md := Nat.le_trans hd.cap hd.max
  unfold maxLen at md
  have R : closeErr c ds s = 1 := by unfold closeErr; rw [if_neg (by simp [e1]), if_neg (by simp; omega), if_pos e4]
  have R2 : closeRes c ds s = [] := by unfold closeRes; rw [if_neg (by rw [R]; decide)]
  rw [R, R2] at H1
  obtain ⟨sn, rfl⟩ := Int.eq_ofNat_of_zero_le e2
  rw [e1] at H2
  have b3 : decide ((sn : Int) < 0) = false := by simp
  have b4 : decide (sn ≥ c.slots.length) = false := by simp; omega
  have b5 : ((ds.length : Int) != c.doms) = true := by simp [e4]
  have HD := Lib.hid (fun (A1 : Option Addr) (n1 : Nat) W (h : Sl cDom (Low W.heap.size) W A1 n1 []) => refSameDomains [] A1 none n1 0 W.heap.size W (Nat.le_refl _) h (Sl.empty _ _ _))
  clear e1 e4 hs hd R R2
  go_enter Try.func5, Try.ntmps5
  go_wp2_with fail
  (go_at_call 21; refine (H1.out _ byB).mono ?_; rintro e w1 ⟨A1, n1, rfl, hO1, hb_w1⟩; refine have_then (P := w1.heap[w.heap.size]? = some (.cells #[.int .i64 c.sets, .int .i64 c.ways, .int .i64 c.doms, .int .i64 c.pad, .int .i64 c.quantum, .slice S.a0 c.slots.length S.n0, .slice S.a1 c.owners.length S.n1, .slice S.a2 c.chans.length S.n2, .slice S.a3 c.tasks.length S.n3] 27)) ((hb_w1.block _ byS).trans byH) (fun c_w1 => ?_); obtain ⟨cc_w1, fc_w1, zc_w1⟩ := blk c_w1; refine have_then (P := Below w.heap.size w w1) byB (fun h_w1 => ?_); have s_w1 := Below.size h_w1; have t_w1 := Below.size hb_w1; (try simp at t_w1); revert hb_w1; intro hb_w1)
  have hx1 := hO1.at.mono (J := Low w1.heap.size) (fun b hb => hb.2)
  replace hx1 := Lib.hid hx1
  clear hO1
  go_wp2_with fail
  (go_at_call 12; refine (H2.out _ byB).mono ?_; rintro e w2 ⟨rfl, hb_w2⟩; refine have_then (P := w2.heap[w.heap.size]? = some (.cells #[.int .i64 c.sets, .int .i64 c.ways, .int .i64 c.doms, .int .i64 c.pad, .int .i64 c.quantum, .slice S.a0 c.slots.length S.n0, .slice S.a1 c.owners.length S.n1, .slice S.a2 c.chans.length S.n2, .slice S.a3 c.tasks.length S.n3] 27)) ((hb_w2.block _ byS).trans byH) (fun c_w2 => ?_); obtain ⟨cc_w2, fc_w2, zc_w2⟩ := blk c_w2; refine have_then (P := Below w.heap.size w w2) byB (fun h_w2 => ?_); have s_w2 := Below.size h_w2; have t_w2 := Below.size hb_w2; (try simp at t_w2); revert hb_w2; intro hb_w2; clear c_w1 cc_w1 fc_w1)
  go_wp2_with fail
  go_loopw [9, 10] (fun ev iv wr => ev = .int .i64 1 ∧ iv = .int .i64 0 ∧ Below w.heap.size w wr ∧ Below w1.heap.size w1 wr) (fun _ iv _ => 0)
  case atStart => exact ⟨rfl, rfl, h_w2, byB⟩
  case round =>
    obtain ⟨rfl, rfl, h_r, hb_r⟩ := hrel
    have s_r := Below.size h_r
    have t_r := Below.size hb_r
    revert hb_r; intro hb_r
    by_cases hlt : 0 < ds.length
    all_goals
      go_wp2_with fail
      (go_at_call 15; refine (H6.out _).mono ?_; rintro e w4 ⟨rfl, hb_w4⟩; refine have_then (P := Below w.heap.size w w4) byB (fun h_w4 => ?_); have s_w4 := Below.size h_w4; have t_w4 := Below.size hb_w4; (try simp at t_w4); revert hb_w4; intro hb_w4)
      go_wp2_with fail
      go_at_call 23
      refine (HD.out A1 n1 _ ((hx1.out.next (Nat.le_refl _) byB).up byS)).mono ?_
      rintro e w5 ⟨rfl, hb5⟩
      have h5 : Below w.heap.size w w5 := byB
      go_wp2_with fail
      go_ret
      exact ⟨rfl, h5⟩

theorem lawTurnCloses_e (c : TCfg) (S : TCfgS) (ds : List TDom) (A : Option Addr) (n : Nat) (s : Int) (hz : ∀ k, k < ds.length → DomSz (nth ds k)) (B : Nat) (w : World) (hB : B ≤ w.heap.size) (hs : TCfg.At (Low B) w c S) (hd : Sl cDom (Low B) w A n ds) (e1 : checkConfig c = 0) (e2 : 0 ≤ s) (e3 : s < (c.slots.length : Int)) (e4 : (ds.length : Int) = c.doms) (e5 : (firstE ds.length fun i => domErr c i (nth ds i)) ≠ 0) :
    Calls Try.prog 5 #[.agg #[.int .i64 c.sets, .int .i64 c.ways, .int .i64 c.doms, .int .i64 c.pad, .int .i64 c.quantum, .slice S.a0 c.slots.length S.n0, .slice S.a1 c.owners.length S.n1, .slice S.a2 c.chans.length S.n2, .slice S.a3 c.tasks.length S.n3], .slice A ds.length n, .int .i64 s] w fun en w' => en = .returned (.bool true) ∧ Below w.heap.size w w' := by
  have H1 := Lib.hid (fun W (h : Below w.heap.size w W) => turnClose c S ds A n s hz B W (Nat.le_trans hB h.size) (hs.next hB h) (hd.next hB h))
  have H2 := Lib.hid (fun W (h : Below w.heap.size w W) => refCheckConfig c S B W (Nat.le_trans hB h.size) (hs.next hB h))
  have H6 := Lib.hid (fun W => lawTurnBegun W)
  have md := Nat.le_trans hd.cap hd.max
  unfold maxLen at md
  have ok := checkConfig_ok e1
  have HO : closeErr c ds s = firstE ds.length fun i => domErr c i (nth ds i) := by unfold closeErr; rw [if_neg (by simp [e1]), if_neg (by simp; omega), if_neg (by simpa using e4)]
  have R2 : closeRes c ds s = [] := by unfold closeRes; rw [if_neg (by rw [HO]; exact e5)]
  rw [HO, R2] at H1
  clear HO R2
  obtain ⟨sn, rfl⟩ := Int.eq_ofNat_of_zero_le e2
  rw [e1] at H2
  have b3 : decide ((sn : Int) < 0) = false := by simp
  have b4 : decide (sn ≥ c.slots.length) = false := by simp; omega
  have b5 : ((ds.length : Int) != c.doms) = false := by simp [e4]
  have HF := Lib.hid (fun i (h : firstE i (fun i => domErr c i (nth ds i)) ≠ 0) n (hn : i ≤ n) => firstE_stay h n hn)
  have HN := Lib.hid (fun i (h : firstE i (fun i => domErr c i (nth ds i)) = 0) => firstE_next h)
  have H3 := Lib.hid (fun k (hk : k < ds.length) (T : TDomS) W (h : Below w.heap.size w W) (hT : TDom.At (Low B) W (nth ds k) T) => refCheckDomain c S k (nth ds k) T ok B W (Nat.le_trans hB h.size) (hs.next hB h) hT)
  have HDD := Lib.hid hd
  have HD := Lib.hid (fun (A1 : Option Addr) (n1 : Nat) W (h : Sl cDom (Low W.heap.size) W A1 n1 []) => refSameDomains [] A1 none n1 0 W.heap.size W (Nat.le_refl _) h (Sl.empty _ _ _))
  have F0 : firstE 0 (fun i => domErr c i (nth ds i)) = 0 := rfl
  obtain ⟨FE, hFE⟩ : ∃ FE : Nat → Int, ∀ i, (firstE i fun i => domErr c i (nth ds i)) = FE i := ⟨_, fun _ => rfl⟩
  simp only [hFE] at H1 HF HN e5 F0
  replace F0 := Lib.hid F0
  clear e1 e4 hs hd ok hFE
  go_enter Try.func5, Try.ntmps5
  go_wp2_with fail
  (go_at_call 21; refine (H1.out _ byB).mono ?_; rintro e w1 ⟨A1, n1, rfl, hO1, hb_w1⟩; refine have_then (P := w1.heap[w.heap.size]? = some (.cells #[.int .i64 c.sets, .int .i64 c.ways, .int .i64 c.doms, .int .i64 c.pad, .int .i64 c.quantum, .slice S.a0 c.slots.length S.n0, .slice S.a1 c.owners.length S.n1, .slice S.a2 c.chans.length S.n2, .slice S.a3 c.tasks.length S.n3] 27)) ((hb_w1.block _ byS).trans byH) (fun c_w1 => ?_); obtain ⟨cc_w1, fc_w1, zc_w1⟩ := blk c_w1; refine have_then (P := Below w.heap.size w w1) byB (fun h_w1 => ?_); have s_w1 := Below.size h_w1; have t_w1 := Below.size hb_w1; (try simp at t_w1); revert hb_w1; intro hb_w1)
  have hx1 := hO1.at.mono (J := Low w1.heap.size) (fun b hb => hb.2)
  replace hx1 := Lib.hid hx1
  clear hO1
  go_wp2_with fail
  (go_at_call 12; refine (H2.out _ byB).mono ?_; rintro e w2 ⟨rfl, hb_w2⟩; refine have_then (P := w2.heap[w.heap.size]? = some (.cells #[.int .i64 c.sets, .int .i64 c.ways, .int .i64 c.doms, .int .i64 c.pad, .int .i64 c.quantum, .slice S.a0 c.slots.length S.n0, .slice S.a1 c.owners.length S.n1, .slice S.a2 c.chans.length S.n2, .slice S.a3 c.tasks.length S.n3] 27)) ((hb_w2.block _ byS).trans byH) (fun c_w2 => ?_); obtain ⟨cc_w2, fc_w2, zc_w2⟩ := blk c_w2; refine have_then (P := Below w.heap.size w w2) byB (fun h_w2 => ?_); have s_w2 := Below.size h_w2; have t_w2 := Below.size hb_w2; (try simp at t_w2); revert hb_w2; intro hb_w2; clear c_w1 cc_w1 fc_w1)
  go_wp2_with fail
  go_loopw [9, 10] (fun ev iv wr => ∃ i : Nat, i ≤ ds.length ∧ iv = .int .i64 i ∧ ev = .int .i64 (FE i) ∧ wr.heap[w.heap.size]? = some (.cells #[.int .i64 c.sets, .int .i64 c.ways, .int .i64 c.doms, .int .i64 c.pad, .int .i64 c.quantum, .slice S.a0 c.slots.length S.n0, .slice S.a1 c.owners.length S.n1, .slice S.a2 c.chans.length S.n2, .slice S.a3 c.tasks.length S.n3] 27) ∧ Below w.heap.size w wr ∧ Below w1.heap.size w1 wr) (fun _ iv _ => ds.length - (intOf iv).toNat)
  case atStart => exact ⟨0, Nat.zero_le _, rfl, by rw [F0.out], c_w2, h_w2, byB⟩
  case round =>
    obtain ⟨i, hi, rfl, rfl, c_r, h_r, hb_r⟩ := hrel
    have s_r := Below.size h_r
    have t_r := Below.size hb_r
    revert hb_r; intro hb_r
    obtain ⟨cc_r, fc_r, zc_r⟩ := blk c_r
    have hi0 : (0 : Int) ≤ i := by omega
    by_cases hlt : i < ds.length ∧ FE i = 0
    · obtain ⟨hlt, hf⟩ := hlt
      have hi1 : (i : Int) < ds.length := by omega
      have hn := HN.out i hf
      obtain ⟨b, o, T, rfl, hI, d0, d1, d2, d3, d4, d5, d6, hT⟩ := (HDD.out.next hB h_r).at_dom hlt
      have hI := Nat.lt_of_lt_of_le hI hB
      have hbl : b < wr.heap.size := by omega
      have H3a := Lib.hid (fun W (h : Below wr.heap.size wr W) => H3.out i hlt T W (h_r.trans (h.mono s_r)) (hT.keep fun b hb => h.block b (by simp only [Low] at hb; omega)))
      rw [← hn] at H3a
      replace hn := Lib.hid hn
      clear hT
      have b9 : (FE i == 0) = true := by simp [hf]
      replace hf := Lib.hid hf
      go_wp2_with fail
      go_region_held3 (fun w' => (∀ oo, w'.cell? ⟨w.heap.size, oo, none⟩ = #[.int .i64 c.sets, .int .i64 c.ways, .int .i64 c.doms, .int .i64 c.pad, .int .i64 c.quantum, .slice S.a0 c.slots.length S.n0, .slice S.a1 c.owners.length S.n1, .slice S.a2 c.chans.length S.n2, .slice S.a3 c.tasks.length S.n3][oo]?) ∧ w'.cell? ⟨b, o + i * 7, none⟩ = some (.slice T.a0 (nth ds i).jobs.length T.n0) ∧ w'.cell? ⟨b, o + i * 7 + 1, none⟩ = some (.slice T.a1 (nth ds i).released.length T.n1) ∧ w'.cell? ⟨b, o + i * 7 + 2, none⟩ = some (.int .i64 (nth ds i).next) ∧
          w'.cell? ⟨b, o + i * 7 + 3, none⟩ = some (.slice T.a2 (nth ds i).ins.length T.n2) ∧ w'.cell? ⟨b, o + i * 7 + 4, none⟩ = some (.slice T.a3 (nth ds i).taken.length T.n3) ∧ w'.cell? ⟨b, o + i * 7 + 5, none⟩ = some (.slice T.a4 (nth ds i).outs.length T.n4) ∧ w'.cell? ⟨b, o + i * 7 + 6, none⟩ = some (.slice T.a5 (nth ds i).events.length T.n5))
        (((try dsimp only); (repeat' apply And.intro) <;> (first | exact fun oo => (Below.cell (B := wr.heap.size) (w := wr) byB (by first | assumption | omega)).trans (cc_r oo) | exact (Below.cell (B := wr.heap.size) (w := wr) byB (by first | assumption | omega)).trans (by assumption) | go_keep | (simp [go_sem, *]; done)))) (first | (go_at_call 17; refine (H3a.out _ byB).mono ?_; rintro e w3 ⟨rfl, hb_w3⟩; refine have_then (P := w3.heap[w.heap.size]? = some (.cells #[.int .i64 c.sets, .int .i64 c.ways, .int .i64 c.doms, .int .i64 c.pad, .int .i64 c.quantum, .slice S.a0 c.slots.length S.n0, .slice S.a1 c.owners.length S.n1, .slice S.a2 c.chans.length S.n2, .slice S.a3 c.tasks.length S.n3] 27)) ((hb_w3.block _ byS).trans byH) (fun c_w3 => ?_); obtain ⟨cc_w3, fc_w3, zc_w3⟩ := blk c_w3; refine have_then (P := Below w.heap.size w w3) byB (fun h_w3 => ?_); have s_w3 := Below.size h_w3; have t_w3 := Below.size hb_w3; (try simp at t_w3); revert hb_w3; intro hb_w3))
      all_goals
        go_wp2_with fail
        exact ⟨⟨i + 1, by omega, by go_num, rfl, c_w3, h_w3, byB⟩, by simp [intOf]; omega⟩
    · have hend : FE ds.length = FE i := by
        by_cases h1 : i < ds.length
        · exact HF.out i (fun h => hlt ⟨h1, h⟩) ds.length hi
        · rw [show ds.length = i by omega]
      rw [hend] at e5
      have b9 : (FE i == 0) = false := by simp [e5]
      rw [hend] at H1
      replace hend := Lib.hid hend
      by_cases h1 : i < ds.length
      all_goals
        go_wp2_with fail
        (go_at_call 15; refine (H6.out _).mono ?_; rintro e w4 ⟨rfl, hb_w4⟩; refine have_then (P := Below w.heap.size w w4) byB (fun h_w4 => ?_); have s_w4 := Below.size h_w4; have t_w4 := Below.size hb_w4; (try simp at t_w4); revert hb_w4; intro hb_w4)
        go_wp2_with fail
        go_at_call 23
        refine (HD.out A1 n1 _ ((hx1.out.next (Nat.le_refl _) byB).up byS)).mono ?_
        rintro e w5 ⟨rfl, hb5⟩
        have h5 : Below w.heap.size w w5 := byB
        go_wp2_with fail
        go_ret
        exact ⟨rfl, h5⟩

theorem lawTurnCloses_f (c : TCfg) (S : TCfgS) (ds : List TDom) (A : Option Addr) (n : Nat) (s : Int) (hz : ∀ k, k < ds.length → DomSz (nth ds k)) (B : Nat) (w : World) (hB : B ≤ w.heap.size) (hs : TCfg.At (Low B) w c S) (hd : Sl cDom (Low B) w A n ds) (e1 : checkConfig c = 0) (e2 : 0 ≤ s) (e3 : s < (c.slots.length : Int)) (e4 : (ds.length : Int) = c.doms) (e5 : (firstE ds.length fun i => domErr c i (nth ds i)) = 0) :
    Calls Try.prog 5 #[.agg #[.int .i64 c.sets, .int .i64 c.ways, .int .i64 c.doms, .int .i64 c.pad, .int .i64 c.quantum, .slice S.a0 c.slots.length S.n0, .slice S.a1 c.owners.length S.n1, .slice S.a2 c.chans.length S.n2, .slice S.a3 c.tasks.length S.n3], .slice A ds.length n, .int .i64 s] w fun en w' => en = .returned (.bool true) ∧ Below w.heap.size w w' := by
  have H1 := Lib.hid (fun W (h : Below w.heap.size w W) => turnClose c S ds A n s hz B W (Nat.le_trans hB h.size) (hs.next hB h) (hd.next hB h))
  have H2 := Lib.hid (fun W (h : Below w.heap.size w W) => refCheckConfig c S B W (Nat.le_trans hB h.size) (hs.next hB h))
  have H6 := Lib.hid (fun W => lawTurnBegun W)
  have md := Nat.le_trans hd.cap hd.max
  unfold maxLen at md
  have ok := checkConfig_ok e1
  have HO : closeErr c ds s = firstE ds.length fun i => domErr c i (nth ds i) := by unfold closeErr; rw [if_neg (by simp [e1]), if_neg (by simp; omega), if_neg (by simpa using e4)]
  have R2 : closeRes c ds s = closeOf c s ds := by unfold closeRes; rw [if_pos (by rw [HO]; exact e5)]
  have hall := firstE_zero e5
  rw [HO, R2, e5] at H1
  have H5 := Lib.hid (fun W (h : Below w.heap.size w W) => refCloseOf c S ds A n s ok (lvOk_of e4 fun k hk => domErr_zero.1 (hall k hk)) ⟨e2, e3⟩ hz B W (Nat.le_trans hB h.size) (hs.next hB h) (hd.next hB h))
  clear HO R2 hall
  obtain ⟨sn, rfl⟩ := Int.eq_ofNat_of_zero_le e2
  rw [e1] at H2
  have b3 : decide ((sn : Int) < 0) = false := by simp
  have b4 : decide (sn ≥ c.slots.length) = false := by simp; omega
  have b5 : ((ds.length : Int) != c.doms) = false := by simp [e4]
  have HF := Lib.hid (fun i (h : firstE i (fun i => domErr c i (nth ds i)) ≠ 0) n (hn : i ≤ n) => firstE_stay h n hn)
  have HN := Lib.hid (fun i (h : firstE i (fun i => domErr c i (nth ds i)) = 0) => firstE_next h)
  have H3 := Lib.hid (fun k (hk : k < ds.length) (T : TDomS) W (h : Below w.heap.size w W) (hT : TDom.At (Low B) W (nth ds k) T) => refCheckDomain c S k (nth ds k) T ok B W (Nat.le_trans hB h.size) (hs.next hB h) hT)
  have HDD := Lib.hid hd
  have HD := Lib.hid (fun (A1 A2 : Option Addr) (n1 n2 : Nat) W (h : Sl cDom (Low W.heap.size) W A1 n1 (closeOf c sn ds)) (h2 : Sl cDom (Low W.heap.size) W A2 n2 (closeOf c sn ds)) => refSameDomains (closeOf c sn ds) A1 A2 n1 n2 W.heap.size W (Nat.le_refl _) h h2)
  have F0 : firstE 0 (fun i => domErr c i (nth ds i)) = 0 := rfl
  obtain ⟨FE, hFE⟩ : ∃ FE : Nat → Int, ∀ i, (firstE i fun i => domErr c i (nth ds i)) = FE i := ⟨_, fun _ => rfl⟩
  simp only [hFE] at H1 HF HN e5 F0
  replace F0 := Lib.hid F0
  clear e1 e4 hs hd ok hFE
  go_enter Try.func5, Try.ntmps5
  go_wp2_with fail
  (go_at_call 21; refine (H1.out _ byB).mono ?_; rintro e w1 ⟨A1, n1, rfl, hO1, hb_w1⟩; refine have_then (P := w1.heap[w.heap.size]? = some (.cells #[.int .i64 c.sets, .int .i64 c.ways, .int .i64 c.doms, .int .i64 c.pad, .int .i64 c.quantum, .slice S.a0 c.slots.length S.n0, .slice S.a1 c.owners.length S.n1, .slice S.a2 c.chans.length S.n2, .slice S.a3 c.tasks.length S.n3] 27)) ((hb_w1.block _ byS).trans byH) (fun c_w1 => ?_); obtain ⟨cc_w1, fc_w1, zc_w1⟩ := blk c_w1; refine have_then (P := Below w.heap.size w w1) byB (fun h_w1 => ?_); have s_w1 := Below.size h_w1; have t_w1 := Below.size hb_w1; (try simp at t_w1); revert hb_w1; intro hb_w1)
  have hx1 := hO1.at.mono (J := Low w1.heap.size) (fun b hb => hb.2)
  replace hx1 := Lib.hid hx1
  clear hO1
  go_wp2_with fail
  (go_at_call 12; refine (H2.out _ byB).mono ?_; rintro e w2 ⟨rfl, hb_w2⟩; refine have_then (P := w2.heap[w.heap.size]? = some (.cells #[.int .i64 c.sets, .int .i64 c.ways, .int .i64 c.doms, .int .i64 c.pad, .int .i64 c.quantum, .slice S.a0 c.slots.length S.n0, .slice S.a1 c.owners.length S.n1, .slice S.a2 c.chans.length S.n2, .slice S.a3 c.tasks.length S.n3] 27)) ((hb_w2.block _ byS).trans byH) (fun c_w2 => ?_); obtain ⟨cc_w2, fc_w2, zc_w2⟩ := blk c_w2; refine have_then (P := Below w.heap.size w w2) byB (fun h_w2 => ?_); have s_w2 := Below.size h_w2; have t_w2 := Below.size hb_w2; (try simp at t_w2); revert hb_w2; intro hb_w2; clear c_w1 cc_w1 fc_w1)
  go_wp2_with fail
  go_loopw [9, 10] (fun ev iv wr => ∃ i : Nat, i ≤ ds.length ∧ iv = .int .i64 i ∧ ev = .int .i64 (FE i) ∧ wr.heap[w.heap.size]? = some (.cells #[.int .i64 c.sets, .int .i64 c.ways, .int .i64 c.doms, .int .i64 c.pad, .int .i64 c.quantum, .slice S.a0 c.slots.length S.n0, .slice S.a1 c.owners.length S.n1, .slice S.a2 c.chans.length S.n2, .slice S.a3 c.tasks.length S.n3] 27) ∧ Below w.heap.size w wr ∧ Below w1.heap.size w1 wr) (fun _ iv _ => ds.length - (intOf iv).toNat)
  case atStart => exact ⟨0, Nat.zero_le _, rfl, by rw [F0.out], c_w2, h_w2, byB⟩
  case round =>
    obtain ⟨i, hi, rfl, rfl, c_r, h_r, hb_r⟩ := hrel
    have s_r := Below.size h_r
    have t_r := Below.size hb_r
    revert hb_r; intro hb_r
    obtain ⟨cc_r, fc_r, zc_r⟩ := blk c_r
    have hi0 : (0 : Int) ≤ i := by omega
    by_cases hlt : i < ds.length ∧ FE i = 0
    · obtain ⟨hlt, hf⟩ := hlt
      have hi1 : (i : Int) < ds.length := by omega
      have hn := HN.out i hf
      obtain ⟨b, o, T, rfl, hI, d0, d1, d2, d3, d4, d5, d6, hT⟩ := (HDD.out.next hB h_r).at_dom hlt
      have hI := Nat.lt_of_lt_of_le hI hB
      have hbl : b < wr.heap.size := by omega
      have H3a := Lib.hid (fun W (h : Below wr.heap.size wr W) => H3.out i hlt T W (h_r.trans (h.mono s_r)) (hT.keep fun b hb => h.block b (by simp only [Low] at hb; omega)))
      rw [← hn] at H3a
      replace hn := Lib.hid hn
      clear hT
      have b9 : (FE i == 0) = true := by simp [hf]
      replace hf := Lib.hid hf
      go_wp2_with fail
      go_region_held3 (fun w' => (∀ oo, w'.cell? ⟨w.heap.size, oo, none⟩ = #[.int .i64 c.sets, .int .i64 c.ways, .int .i64 c.doms, .int .i64 c.pad, .int .i64 c.quantum, .slice S.a0 c.slots.length S.n0, .slice S.a1 c.owners.length S.n1, .slice S.a2 c.chans.length S.n2, .slice S.a3 c.tasks.length S.n3][oo]?) ∧ w'.cell? ⟨b, o + i * 7, none⟩ = some (.slice T.a0 (nth ds i).jobs.length T.n0) ∧ w'.cell? ⟨b, o + i * 7 + 1, none⟩ = some (.slice T.a1 (nth ds i).released.length T.n1) ∧ w'.cell? ⟨b, o + i * 7 + 2, none⟩ = some (.int .i64 (nth ds i).next) ∧
          w'.cell? ⟨b, o + i * 7 + 3, none⟩ = some (.slice T.a2 (nth ds i).ins.length T.n2) ∧ w'.cell? ⟨b, o + i * 7 + 4, none⟩ = some (.slice T.a3 (nth ds i).taken.length T.n3) ∧ w'.cell? ⟨b, o + i * 7 + 5, none⟩ = some (.slice T.a4 (nth ds i).outs.length T.n4) ∧ w'.cell? ⟨b, o + i * 7 + 6, none⟩ = some (.slice T.a5 (nth ds i).events.length T.n5))
        (((try dsimp only); (repeat' apply And.intro) <;> (first | exact fun oo => (Below.cell (B := wr.heap.size) (w := wr) byB (by first | assumption | omega)).trans (cc_r oo) | exact (Below.cell (B := wr.heap.size) (w := wr) byB (by first | assumption | omega)).trans (by assumption) | go_keep | (simp [go_sem, *]; done)))) (first | (go_at_call 17; refine (H3a.out _ byB).mono ?_; rintro e w3 ⟨rfl, hb_w3⟩; refine have_then (P := w3.heap[w.heap.size]? = some (.cells #[.int .i64 c.sets, .int .i64 c.ways, .int .i64 c.doms, .int .i64 c.pad, .int .i64 c.quantum, .slice S.a0 c.slots.length S.n0, .slice S.a1 c.owners.length S.n1, .slice S.a2 c.chans.length S.n2, .slice S.a3 c.tasks.length S.n3] 27)) ((hb_w3.block _ byS).trans byH) (fun c_w3 => ?_); obtain ⟨cc_w3, fc_w3, zc_w3⟩ := blk c_w3; refine have_then (P := Below w.heap.size w w3) byB (fun h_w3 => ?_); have s_w3 := Below.size h_w3; have t_w3 := Below.size hb_w3; (try simp at t_w3); revert hb_w3; intro hb_w3))
      all_goals
        go_wp2_with fail
        exact ⟨⟨i + 1, by omega, by go_num, rfl, c_w3, h_w3, byB⟩, by simp [intOf]; omega⟩
    · have hend : FE ds.length = FE i := by
        by_cases h1 : i < ds.length
        · exact HF.out i (fun h => hlt ⟨h1, h⟩) ds.length hi
        · rw [show ds.length = i by omega]
      rw [hend] at e5
      have hil : i = ds.length := by
        by_cases h1 : i < ds.length
        · exact absurd ⟨h1, e5⟩ hlt
        · omega
      subst hil
      have b9 : (FE ds.length == 0) = true := by simp [e5]
      go_wp2_with fail
      go_at_call 22
      refine (H5.out wr h_r).mono ?_
      rintro e w5 ⟨A5, n5, rfl, hO5, hb5⟩
      have hy5 := hO5.at.mono (J := Low w5.heap.size) (fun b hb => hb.2)
      have hz5 := hb5.size
      replace hy5 := Lib.hid hy5
      clear hO5
      go_wp2_with fail
      (go_at_call 15; refine (H6.out _).mono ?_; rintro e w6 ⟨rfl, hb_w6⟩; refine have_then (P := Below w.heap.size w w6) byB (fun h_w6 => ?_); have s_w6 := Below.size h_w6; have t_w6 := Below.size hb_w6; (try simp at t_w6); revert hb_w6; intro hb_w6)
      go_wp2_with fail
      go_at_call 23
      refine (HD.out A1 A5 n1 n5 _ ((hx1.out.next (Nat.le_refl _) byB).up byS) ((hy5.out.next (Nat.le_refl _) byB).up byS)).mono ?_
      rintro e w7 ⟨rfl, hb7⟩
      have h7 : Below w.heap.size w w7 := byB
      go_wp2_with fail
      go_ret
      exact ⟨rfl, h7⟩

theorem lawTurnCloses (c : TCfg) (S : TCfgS) (ds : List TDom) (A : Option Addr) (n : Nat) (s : Int) (hz : ∀ k, k < ds.length → DomSz (nth ds k)) (_hev : ∀ k, k < ds.length → (nth ds k).events.length + 128 ≤ 4398046511104) (B : Nat) (w : World) (hB : B ≤ w.heap.size) (hs : TCfg.At (Low B) w c S) (hd : Sl cDom (Low B) w A n ds) :
    Calls Try.prog 5 #[.agg #[.int .i64 c.sets, .int .i64 c.ways, .int .i64 c.doms, .int .i64 c.pad, .int .i64 c.quantum, .slice S.a0 c.slots.length S.n0, .slice S.a1 c.owners.length S.n1, .slice S.a2 c.chans.length S.n2, .slice S.a3 c.tasks.length S.n3], .slice A ds.length n, .int .i64 s] w fun en w' => en = .returned (.bool true) ∧ Below w.heap.size w w' := by
  by_cases e1 : checkConfig c = 0
  · by_cases e2 : s < 0
    · exact lawTurnCloses_b c S ds A n s hz B w hB hs hd e1 e2
    · by_cases e3 : (c.slots.length : Int) ≤ s
      · exact lawTurnCloses_c c S ds A n s hz B w hB hs hd e1 (by omega) e3
      · by_cases e4 : (ds.length : Int) = c.doms
        · by_cases e5 : (firstE ds.length fun i => domErr c i (nth ds i)) = 0
          · exact lawTurnCloses_f c S ds A n s hz B w hB hs hd e1 (by omega) (by omega) e4 e5
          · exact lawTurnCloses_e c S ds A n s hz B w hB hs hd e1 (by omega) (by omega) e4 e5
        · exact lawTurnCloses_d c S ds A n s hz B w hB hs hd e1 (by omega) (by omega) e4
  · exact lawTurnCloses_a c S ds A n s hz B w hB hs hd e1
end Go.Proofs.Ytinlmkhlgclbfab
