/- WinB -/
import Derived.Test.YtinlmkhlgclbfabWwA12
import Derived.Test.YtinlmkhlgclbfabWwA13
import Derived.Test.YtinlmkhlgclbfabWwA14
namespace Go.Proofs.Ytinlmkhlgclbfab
open Go.RowKit
set_option maxRecDepth 100000
set_option maxHeartbeats 4000000

theorem spendK_len (k : List (List TWay)) (a : TAct) : (spendK k a).length = k.length := by unfold spendK accessOf; split <;> simp
theorem windowSpend (k : List (List TWay)) (ok : CacheOk k) (a : TAct) (ha : ActOk a) (A : Option Addr) (n : Nat) (F : Nat → Prop) (w : World) (hO : OCache F w (.slice A k.length n) k) (hF : ∀ b, F b → b < w.heap.size) :
    Calls Try.prog 66 #[.agg #[.slice A k.length n], .agg #[.int .i64 a.kind, .int .i64 a.n, .int .i64 a.value]] w fun e w' => e = .returned (.int .i64 (spendN k a)) ∧ OCache F w' (.slice A k.length n) (spendK k a) ∧ Only F w w' := by
  by_cases hm : isMem a = true
  · have hm' := hm
    simp only [isMem, Bool.or_eq_true, decide_eq_true_eq] at hm'
    have hl := ha.line hm'
    have R1 : spendN k a = accessCost k a.n := by unfold spendN; rw [if_pos hm]
    have R2 : spendK k a = accessOf k a.n (decide (a.kind = 3)) := by unfold spendK; rw [if_pos hm]
    rw [R1, R2]
    have HT := Lib.hid (fun W (h : Below w.heap.size w W) => cacheTouch k ok a.n (decide (a.kind = 3)) hl.1 hl.2 A n F W (hO.keep fun b hb => h.block b (hF b hb)) (fun b hb => Nat.lt_of_lt_of_le (hF b hb) h.size))
    clear R1 R2 hO hm ha
    rcases hm' with h2 | h3
    · rw [h2, show decide ((2 : Int) = 3) = false by decide] at HT
      rw [h2, show decide ((2 : Int) = 3) = false by decide]
      have b1 : ((2 : Int) == 2) = true := by decide
      clear h2
      go_enter Try.func66, Try.ntmps66
      go_wp2_with fail
      go_at_call 113
      refine (HT.out _ byB).mono ?_
      rintro e w1 ⟨rfl, hO1, hE1⟩
      have hb : Below w.heap.size w ((w.alloc (.cells #[.slice A k.length n] 63)).alloc (.cells #[.int .i64 2, .int .i64 a.n, .int .i64 a.value] 65)) := byB
      have hE : Only F w w1 := (Only.below hb).trans hE1
      replace hO1 := Lib.hid hO1
      replace hE := Lib.hid hE
      clear hE1
      go_wp2_with fail
      go_ret
      exact ⟨rfl, hO1.out, hE.out⟩
    · rw [h3, show decide ((3 : Int) = 3) = true by decide] at HT
      rw [h3, show decide ((3 : Int) = 3) = true by decide]
      clear h3
      go_enter Try.func66, Try.ntmps66
      go_wp2_with fail
      go_at_call 113
      refine (HT.out _ byB).mono ?_
      rintro e w1 ⟨rfl, hO1, hE1⟩
      have hb : Below w.heap.size w ((w.alloc (.cells #[.slice A k.length n] 63)).alloc (.cells #[.int .i64 3, .int .i64 a.n, .int .i64 a.value] 65)) := byB
      have hE : Only F w w1 := (Only.below hb).trans hE1
      replace hO1 := Lib.hid hO1
      replace hE := Lib.hid hE
      clear hE1
      go_wp2_with fail
      go_ret
      exact ⟨rfl, hO1.out, hE.out⟩
  · have R1 : spendN k a = worstA a := by unfold spendN; rw [if_neg hm]
    have R2 : spendK k a = k := by unfold spendK; rw [if_neg hm]
    rw [R1, R2]
    have hm' : a.kind ≠ 2 ∧ a.kind ≠ 3 := by
      simp only [isMem, Bool.or_eq_true, decide_eq_true_eq] at hm
      omega
    have HW := Lib.hid (fun W => windowWorst a W)
    have b1 : (a.kind == 2) = false := by simp [hm'.1]
    have b2 : (a.kind == 3) = false := by simp [hm'.2]
    have hOk := Lib.hid (fun W (h : Below w.heap.size w W) => (hO.keep fun b hb => h.block b (hF b hb) : OCache F W (.slice A k.length n) k))
    clear R1 R2 hO hm hm' ha ok
    go_enter Try.func66, Try.ntmps66
    go_wp2_with fail
    go_at_call 67
    refine (HW.out _).mono ?_
    rintro e w1 ⟨rfl, hb1⟩
    have h1 : Below w.heap.size w w1 := byB
    go_wp2_with fail
    go_ret
    exact ⟨rfl, hOk.out _ h1, Only.below h1⟩

/-- E1: what Cost says -/
def costErr (k : List (List TWay)) (a : TAct) : Int := if checkCache k ≠ 0 then checkCache k else actErr a
def costRes (k : List (List TWay)) (a : TAct) : List (List TWay) := if costErr k a = 0 then spendK k a else []
def costN (k : List (List TWay)) (a : TAct) : Int := if costErr k a = 0 then spendN k a else 0
theorem windowCost (k : List (List TWay)) (a : TAct) (A : Option Addr) (n B : Nat) (w : World) (hB : B ≤ w.heap.size) (hs : Sl cWay.slice (Low B) w A n k) :
    Calls Try.prog 24 #[.agg #[.slice A k.length n], .agg #[.int .i64 a.kind, .int .i64 a.n, .int .i64 a.value]] w (RetCacheIE (costRes k a) (costN k a) (costErr k a) w) := by
  have H1 := Lib.hid (fun W (h : Below w.heap.size w W) => cacheCheck k A n B W (Nat.le_trans hB h.size) (hs.next hB h))
  have H2 := Lib.hid (fun W => windowRight a W)
  by_cases e1 : checkCache k = 0
  · have ok := checkCache_ok.1 e1
    rw [e1] at H1
    by_cases e2 : actErr a = 0
    · have ha := actErr_zero.1 e2
      have R : costErr k a = 0 := by unfold costErr; rw [if_neg (by simp [e1]), e2]
      have R2 : costRes k a = spendK k a := by unfold costRes; rw [if_pos R]
      have R3 : costN k a = spendN k a := by unfold costN; rw [if_pos R]
      rw [R, R2, R3]
      rw [e2] at H2
      have h4 := ok.h4
      have H3 := Lib.hid (fun W (h : Below w.heap.size w W) => cacheOwn k A n B W (Nat.le_trans hB h.size) (hs.next hB h) (by omega) (fun i hi => by have := ok.w3; rw [ok.same i hi]; omega))
      have H4 := Lib.hid (fun A1 n1 F W (hO : OCache F W (.slice A1 k.length n1) k) (hF : ∀ b, F b → b < W.heap.size) => windowSpend k ok a ha A1 n1 F W hO hF)
      have HL := Lib.hid (spendK_len k a)
      clear R R2 R3 e1 e2 hs ok ha
      go_enter Try.func24, Try.ntmps24
      go_wp2_with fail
      (go_at_call 63; refine (H1.out _ byB).mono ?_; rintro e w1 ⟨rfl, hb_w1⟩; refine have_then (P := w1.heap[w.heap.size]? = some (.cells #[.slice A k.length n] 63)) ((hb_w1.block _ byS).trans byH) (fun c_w1 => ?_); obtain ⟨cc_w1, fc_w1, zc_w1⟩ := blk c_w1; refine have_then (P := w1.heap[w.heap.size + 1]? = some (.cells #[.int .i64 a.kind, .int .i64 a.n, .int .i64 a.value] 65)) ((hb_w1.block _ byS).trans byH) (fun a_w1 => ?_); obtain ⟨ca_w1, fa_w1, za_w1⟩ := blk a_w1; refine have_then (P := w1.heap[w.heap.size + 2]? = some (.cells #[.slice none 0 0] 63)) ((hb_w1.block _ byS).trans byH) (fun r_w1 => ?_); obtain ⟨cr_w1, fr_w1, zr_w1⟩ := blk r_w1; refine have_then (P := Below w.heap.size w w1) byB (fun h_w1 => ?_); have s_w1 := Below.size h_w1; have t_w1 := Below.size hb_w1; (try simp at t_w1); revert hb_w1; intro hb_w1)
      go_wp2_with fail
      (go_at_call 64; refine (H2.out _).mono ?_; rintro e w2 ⟨rfl, hb_w2⟩; refine have_then (P := w2.heap[w.heap.size]? = some (.cells #[.slice A k.length n] 63)) ((hb_w2.block _ byS).trans byH) (fun c_w2 => ?_); obtain ⟨cc_w2, fc_w2, zc_w2⟩ := blk c_w2; refine have_then (P := w2.heap[w.heap.size + 1]? = some (.cells #[.int .i64 a.kind, .int .i64 a.n, .int .i64 a.value] 65)) ((hb_w2.block _ byS).trans byH) (fun a_w2 => ?_); obtain ⟨ca_w2, fa_w2, za_w2⟩ := blk a_w2; refine have_then (P := w2.heap[w.heap.size + 2]? = some (.cells #[.slice none 0 0] 63)) ((hb_w2.block _ byS).trans byH) (fun r_w2 => ?_); obtain ⟨cr_w2, fr_w2, zr_w2⟩ := blk r_w2; refine have_then (P := Below w.heap.size w w2) byB (fun h_w2 => ?_); have s_w2 := Below.size h_w2; have t_w2 := Below.size hb_w2; (try simp at t_w2); revert hb_w2; intro hb_w2; clear c_w1 cc_w1 fc_w1 a_w1 ca_w1 fa_w1 r_w1 cr_w1 fr_w1)
      go_wp2_with fail
      (go_at_call 65; refine (H3.out _ byB).mono ?_; rintro e w3 ⟨A3, n3, rfl, hO3, hb_w3⟩; refine have_then (P := w3.heap[w.heap.size]? = some (.cells #[.slice A k.length n] 63)) ((hb_w3.block _ byS).trans byH) (fun c_w3 => ?_); obtain ⟨cc_w3, fc_w3, zc_w3⟩ := blk c_w3; refine have_then (P := w3.heap[w.heap.size + 1]? = some (.cells #[.int .i64 a.kind, .int .i64 a.n, .int .i64 a.value] 65)) ((hb_w3.block _ byS).trans byH) (fun a_w3 => ?_); obtain ⟨ca_w3, fa_w3, za_w3⟩ := blk a_w3; refine have_then (P := w3.heap[w.heap.size + 2]? = some (.cells #[.slice none 0 0] 63)) ((hb_w3.block _ byS).trans byH) (fun r_w3 => ?_); obtain ⟨cr_w3, fr_w3, zr_w3⟩ := blk r_w3; refine have_then (P := Below w.heap.size w w3) byB (fun h_w3 => ?_); have s_w3 := Below.size h_w3; have t_w3 := Below.size hb_w3; (try simp at t_w3); revert hb_w3; intro hb_w3; clear c_w2 cc_w2 fc_w2 a_w2 ca_w2 fa_w2 r_w2 cr_w2 fr_w2)
      have hO3 : OCache (Rng (w.heap.size + 3) w3.heap.size) w3 (.slice A3 k.length n3) k := OSl.mono hO3 (fun b hb => ⟨by have := hb.1; (try simp at this); omega, hb.2⟩)
      have HS := H4.out A3 n3 (Rng (w.heap.size + 3) w3.heap.size) (w3.alloc (.cells #[.slice A3 k.length n3] 63)) (OSl.keep hO3 fun b hb => heap_alloc_old _ _ hb.2) (fun b hb => by have := hb.2; simp; omega)
      have hr4 : (w3.alloc (.cells #[.slice A3 k.length n3] 63)).heap[w.heap.size + 2]? = some (.cells #[.slice none 0 0] 63) := (heap_alloc_old _ _ zr_w3).trans r_w3
      have hk4 : (w3.alloc (.cells #[.slice A3 k.length n3] 63)).heap[w3.heap.size]? = some (.cells #[.slice A3 k.length n3] 63) := heap_alloc_new _ _
      have h4 : Below w.heap.size w (w3.alloc (.cells #[.slice A3 k.length n3] 63)) := byB
      replace HS := Lib.hid HS
      replace hr4 := Lib.hid hr4
      replace hk4 := Lib.hid hk4
      replace h4 := Lib.hid h4
      clear hO3
      go_wp2_with fail
      go_at_call 66
      refine HS.out.mono ?_
      rintro e w4 ⟨rfl, hO4, hE4⟩
      have hr5 := (hE4.block _ (by simp; omega) (fun h => by have := h.1; omega)).trans hr4.out
      have hk5 := (hE4.block _ (by simp) (fun h => by have := h.2; omega)).trans hk4.out
      have h5 : Below w.heap.size w w4 := h4.out.trans (hE4.toBelow h4.out.size (fun b hb => by have := hb.1; omega))
      have z4 := hE4.size
      simp at z4
      obtain ⟨cr5, fr5, zr5⟩ := blk hr5
      obtain ⟨ck5, fk5, zk5⟩ := blk hk5
      replace hO4 := Lib.hid hO4
      clear hE4
      go_wp2_with fail
      refine bodyPost_ret (v := .tuple #[.agg #[.slice A3 k.length n3], .int .i64 (spendN k a), .int .i64 0]) (by simp [results, Try.results24, go_sem, *]) rfl ?_
      refine ⟨A3, n3, by rw [HL.out], ?_, Below.setCell h5 (by show w.heap.size ≤ w.heap.size + 1 + 1; omega) _⟩
      rw [HL.out]
      exact OSl.mono (OSl.keep hO4.out fun b hb => Below.heap_setCell _ _ _ _ (by have := hb.1; simp; omega)) (fun b hb => ⟨by have := hb.1; omega, by have := hb.2; simp; omega⟩)
    · have R : costErr k a = actErr a := by unfold costErr; rw [if_neg (by simp [e1])]
      have R2 : costRes k a = [] := by unfold costRes; rw [if_neg (by rw [R]; exact e2)]
      have R3 : costN k a = 0 := by unfold costN; rw [if_neg (by rw [R]; exact e2)]
      rw [R, R2, R3]
      have b2 : (actErr a != 0) = true := by simp [e2]
      clear R R2 R3 e1 e2 hs ok
      generalize actErr a = AE at *
      go_enter Try.func24, Try.ntmps24
      go_wp2_with fail
      (go_at_call 63; refine (H1.out _ byB).mono ?_; rintro e w1 ⟨rfl, hb_w1⟩; refine have_then (P := w1.heap[w.heap.size]? = some (.cells #[.slice A k.length n] 63)) ((hb_w1.block _ byS).trans byH) (fun c_w1 => ?_); obtain ⟨cc_w1, fc_w1, zc_w1⟩ := blk c_w1; refine have_then (P := w1.heap[w.heap.size + 1]? = some (.cells #[.int .i64 a.kind, .int .i64 a.n, .int .i64 a.value] 65)) ((hb_w1.block _ byS).trans byH) (fun a_w1 => ?_); obtain ⟨ca_w1, fa_w1, za_w1⟩ := blk a_w1; refine have_then (P := w1.heap[w.heap.size + 2]? = some (.cells #[.slice none 0 0] 63)) ((hb_w1.block _ byS).trans byH) (fun r_w1 => ?_); obtain ⟨cr_w1, fr_w1, zr_w1⟩ := blk r_w1; refine have_then (P := Below w.heap.size w w1) byB (fun h_w1 => ?_); have s_w1 := Below.size h_w1; have t_w1 := Below.size hb_w1; (try simp at t_w1); revert hb_w1; intro hb_w1)
      go_wp2_with fail
      (go_at_call 64; refine (H2.out _).mono ?_; rintro e w2 ⟨rfl, hb_w2⟩; refine have_then (P := w2.heap[w.heap.size]? = some (.cells #[.slice A k.length n] 63)) ((hb_w2.block _ byS).trans byH) (fun c_w2 => ?_); obtain ⟨cc_w2, fc_w2, zc_w2⟩ := blk c_w2; refine have_then (P := w2.heap[w.heap.size + 1]? = some (.cells #[.int .i64 a.kind, .int .i64 a.n, .int .i64 a.value] 65)) ((hb_w2.block _ byS).trans byH) (fun a_w2 => ?_); obtain ⟨ca_w2, fa_w2, za_w2⟩ := blk a_w2; refine have_then (P := w2.heap[w.heap.size + 2]? = some (.cells #[.slice none 0 0] 63)) ((hb_w2.block _ byS).trans byH) (fun r_w2 => ?_); obtain ⟨cr_w2, fr_w2, zr_w2⟩ := blk r_w2; refine have_then (P := Below w.heap.size w w2) byB (fun h_w2 => ?_); have s_w2 := Below.size h_w2; have t_w2 := Below.size hb_w2; (try simp at t_w2); revert hb_w2; intro hb_w2; clear c_w1 cc_w1 fc_w1 a_w1 ca_w1 fa_w1 r_w1 cr_w1 fr_w1)
      go_wp2_with fail
      refine bodyPost_ret (v := .tuple #[.agg #[.slice none 0 0], .int .i64 0, .int .i64 AE]) (by simp [results, Try.results24, go_sem, *]) rfl ?_
      exact ⟨none, 0, rfl, ocache_nil _ _, byB⟩
  · have R : costErr k a = checkCache k := by unfold costErr; rw [if_pos e1]
    have R2 : costRes k a = [] := by unfold costRes; rw [if_neg (by rw [R]; exact e1)]
    have R3 : costN k a = 0 := by unfold costN; rw [if_neg (by rw [R]; exact e1)]
    rw [R, R2, R3]
    have b1 : (checkCache k == 0) = false := by simp [e1]
    have b2 : (checkCache k != 0) = true := by simp [e1]
    clear R R2 R3 e1 hs H2
    generalize checkCache k = CE at *
    go_enter Try.func24, Try.ntmps24
    go_wp2_with fail
    (go_at_call 63; refine (H1.out _ byB).mono ?_; rintro e w1 ⟨rfl, hb_w1⟩; refine have_then (P := w1.heap[w.heap.size]? = some (.cells #[.slice A k.length n] 63)) ((hb_w1.block _ byS).trans byH) (fun c_w1 => ?_); obtain ⟨cc_w1, fc_w1, zc_w1⟩ := blk c_w1; refine have_then (P := w1.heap[w.heap.size + 1]? = some (.cells #[.int .i64 a.kind, .int .i64 a.n, .int .i64 a.value] 65)) ((hb_w1.block _ byS).trans byH) (fun a_w1 => ?_); obtain ⟨ca_w1, fa_w1, za_w1⟩ := blk a_w1; refine have_then (P := w1.heap[w.heap.size + 2]? = some (.cells #[.slice none 0 0] 63)) ((hb_w1.block _ byS).trans byH) (fun r_w1 => ?_); obtain ⟨cr_w1, fr_w1, zr_w1⟩ := blk r_w1; refine have_then (P := Below w.heap.size w w1) byB (fun h_w1 => ?_); have s_w1 := Below.size h_w1; have t_w1 := Below.size hb_w1; (try simp at t_w1); revert hb_w1; intro hb_w1)
    go_wp2_with fail
    refine bodyPost_ret (v := .tuple #[.agg #[.slice none 0 0], .int .i64 0, .int .i64 CE]) (by simp [results, Try.results24, go_sem, *]) rfl ?_
    exact ⟨none, 0, rfl, ocache_nil _ _, byB⟩
end Go.Proofs.Ytinlmkhlgclbfab
