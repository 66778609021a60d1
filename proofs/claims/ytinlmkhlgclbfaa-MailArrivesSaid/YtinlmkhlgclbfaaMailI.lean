/-
  MailI: the plain law of Commit (value by value is all at once); contracts of the law's ringIs, mailBegun.
-/
import Derived.Test.YtinlmkhlgclbfaaMailH
namespace Go.Proofs.Ytinlmkhlgclbfaa
open Go.RowKit
set_option maxRecDepth 100000
set_option maxHeartbeats 400000

theorem commitFold_eq (ys : List Int) : ∀ (vs : List Int) (lost : Int) (size : Nat), vs.length ≤ size → 0 ≤ lost → lost ≤ 100000 → commitFold vs lost size ys = (comeVals vs ys size, comeLost vs ys lost size) := by
  induction ys with
  | nil =>
    intro vs lost size h1 h2 h3
    simp only [commitFold, List.foldl_nil, comeVals, comeLost, comeN, List.take_nil, List.append_nil, List.length_nil]
    congr 1
    omega
  | cons y ys ih =>
    intro vs lost size h1 h2 h3
    have hstep : commitFold vs lost size (y :: ys) = commitFold (commitStep size (vs, lost) y).1 (commitStep size (vs, lost) y).2 size ys := rfl
    rw [hstep]
    by_cases h : vs.length < size
    · have e : commitStep size (vs, lost) y = (vs ++ [y], lost) := by simp [commitStep, h]
      rw [e, ih _ _ _ (by simp; omega) h2 h3]
      have hn : comeN vs (y :: ys) size = comeN (vs ++ [y]) ys size + 1 := by unfold comeN; simp; omega
      simp only [comeVals, comeLost, hn, List.take_succ_cons, List.append_assoc, List.singleton_append, List.length_cons]
      congr 1
      omega
    · have hn : comeN vs (y :: ys) size = 0 := by unfold comeN; simp; omega
      by_cases h' : lost < 100000
      · have e : commitStep size (vs, lost) y = (vs, lost + 1) := by simp [commitStep, h, h']
        have hn2 : comeN vs ys size = 0 := by unfold comeN; omega
        rw [e, ih _ _ _ h1 (by simp; omega) (by simp; omega)]
        simp only [comeVals, comeLost, hn, hn2, List.take_zero, List.length_cons]
        congr 1
        omega
      · have e : commitStep size (vs, lost) y = (vs, lost) := by simp [commitStep, h, h']
        have hn2 : comeN vs ys size = 0 := by unfold comeN; omega
        rw [e, ih _ _ _ h1 h2 h3]
        simp only [comeVals, comeLost, hn, hn2, List.take_zero, List.length_cons]
        congr 1
        omega

def sameRing (xs ys : List Int) (lx ly : Int) : Bool := decide (lx = ly) && decide (xs = ys)
def ringIs (xs : List Int) (lx e w : Int) (ys : List Int) (ly : Int) : Bool := decide (e = w) && (if w = 0 then sameRing xs ys lx ly else sameRing xs [] lx 0)

theorem lawRingIs (xs ys : List Int) (lx ly e wn : Int) (A A' : Option Addr) (c c' : Nat) (B : Nat) (w : World) (hB : B ≤ w.heap.size) (hs : Sl cInt (Low B) w A c xs) (hs' : Sl cInt (Low B) w A' c' ys) :
    Calls Try.prog 21 #[.agg #[.slice A xs.length c, .int .i64 lx], .int .i64 e, .int .i64 wn, .agg #[.slice A' ys.length c', .int .i64 ly]] w fun en w' => en = .returned (.bool (ringIs xs lx e wn ys ly)) ∧ Below w.heap.size w w' := by
  have H1 := Lib.hid (fun W (h : Below w.heap.size w W) => refSameRing xs ys lx ly A A' c c' B W (Nat.le_trans hB h.size) (hs.next hB h) (hs'.next hB h))
  have H2 := Lib.hid (fun W (h : Below w.heap.size w W) => refSameRing xs [] lx 0 A none c 0 B W (Nat.le_trans hB h.size) (hs.next hB h) (Sl.empty _ _ _))
  clear hs hs'
  by_cases h1 : e = wn
  · have b1 : (e == wn) = true := by simp [h1]
    by_cases h2 : wn = 0
    · have b2 : (wn != 0) = false := by simp [h2]
      have E := Lib.hid (show ringIs xs lx e wn ys ly = (decide (lx = ly) && decide (xs = ys)) by simp [ringIs, sameRing, h1, h2])
      clear h1 h2
      go_enter Try.func21, Try.ntmps21
      go_wp2_with (go_at_call 67; refine (H1.out _ (by repeat (first | with_reducible exact Below.refl _ _ | with_reducible assumption | (with_reducible refine Below.drew ?_) | (with_reducible refine Below.alloc ?_ ?_ _; rotate_left; (first | omega | (simp <;> omega))) | (with_reducible refine Below.setCell ?_ ?_ _; rotate_left; (first | omega | (simp <;> omega))) | (with_reducible refine below_drewN ?_ _) | (refine Below.trans ?_ (Below.mono (by with_reducible assumption) (by first | omega | (simp <;> omega))))))).mono ?_; rintro e w1 ⟨rfl, hb1⟩)
      go_ret
      rw [E.out]
      exact ⟨ret_bool (by simp), (by repeat (first | with_reducible exact Below.refl _ _ | with_reducible assumption | (with_reducible refine Below.drew ?_) | (with_reducible refine Below.alloc ?_ ?_ _; rotate_left; (first | omega | (simp <;> omega))) | (with_reducible refine Below.setCell ?_ ?_ _; rotate_left; (first | omega | (simp <;> omega))) | (with_reducible refine below_drewN ?_ _) | (refine Below.trans ?_ (Below.mono (by with_reducible assumption) (by first | omega | (simp <;> omega))))))⟩
    · have b2 : (wn != 0) = true := by simp [h2]
      have E := Lib.hid (show ringIs xs lx e wn ys ly = (decide (lx = 0) && decide (xs = [])) by simp [ringIs, sameRing, h1, h2])
      clear h1 h2
      go_enter Try.func21, Try.ntmps21
      go_wp2_with (go_at_call 67; refine (H2.out _ (by repeat (first | with_reducible exact Below.refl _ _ | with_reducible assumption | (with_reducible refine Below.drew ?_) | (with_reducible refine Below.alloc ?_ ?_ _; rotate_left; (first | omega | (simp <;> omega))) | (with_reducible refine Below.setCell ?_ ?_ _; rotate_left; (first | omega | (simp <;> omega))) | (with_reducible refine below_drewN ?_ _) | (refine Below.trans ?_ (Below.mono (by with_reducible assumption) (by first | omega | (simp <;> omega))))))).mono ?_; rintro e w1 ⟨rfl, hb1⟩)
      go_ret
      rw [E.out]
      exact ⟨ret_bool (by simp), (by repeat (first | with_reducible exact Below.refl _ _ | with_reducible assumption | (with_reducible refine Below.drew ?_) | (with_reducible refine Below.alloc ?_ ?_ _; rotate_left; (first | omega | (simp <;> omega))) | (with_reducible refine Below.setCell ?_ ?_ _; rotate_left; (first | omega | (simp <;> omega))) | (with_reducible refine below_drewN ?_ _) | (refine Below.trans ?_ (Below.mono (by with_reducible assumption) (by first | omega | (simp <;> omega))))))⟩
  · have b1 : (e == wn) = false := by simp [h1]
    have E := Lib.hid (show ringIs xs lx e wn ys ly = false by simp [ringIs, h1])
    by_cases h2 : wn = 0
    · have b2 : (wn != 0) = false := by simp [h2]
      clear h1 h2
      go_enter Try.func21, Try.ntmps21
      go_wp2
      go_ret
      rw [E.out]
      exact ⟨ret_bool (by simp), (by repeat (first | with_reducible exact Below.refl _ _ | with_reducible assumption | (with_reducible refine Below.drew ?_) | (with_reducible refine Below.alloc ?_ ?_ _; rotate_left; (first | omega | (simp <;> omega))) | (with_reducible refine Below.setCell ?_ ?_ _; rotate_left; (first | omega | (simp <;> omega))) | (with_reducible refine below_drewN ?_ _) | (refine Below.trans ?_ (Below.mono (by with_reducible assumption) (by first | omega | (simp <;> omega))))))⟩
    · have b2 : (wn != 0) = true := by simp [h2]
      clear h1 h2
      go_enter Try.func21, Try.ntmps21
      go_wp2
      go_ret
      rw [E.out]
      exact ⟨ret_bool (by simp), (by repeat (first | with_reducible exact Below.refl _ _ | with_reducible assumption | (with_reducible refine Below.drew ?_) | (with_reducible refine Below.alloc ?_ ?_ _; rotate_left; (first | omega | (simp <;> omega))) | (with_reducible refine Below.setCell ?_ ?_ _; rotate_left; (first | omega | (simp <;> omega))) | (with_reducible refine below_drewN ?_ _) | (refine Below.trans ?_ (Below.mono (by with_reducible assumption) (by first | omega | (simp <;> omega))))))⟩

/-- an owned row of ints reads below the heap's size -/
theorem own_int {w : World} {base : Nat} {A : Option Addr} {c n : Nat} {xs : List Int} (hn : n = xs.length) (h : w.ownsRow base 3 1 (.slice A n c) n (xs.flatMap fun n => [Value.int .i64 n])) : Sl cInt (Rng base w.heap.size) w A c xs := sl_of_own_rng (f := fun n => [Value.int .i64 n]) (hf := fun _ => rfl) hn h

theorem lawMailBegun (w : World) : Calls Try.prog 19 #[] w fun en w' => en = .returned (.bool true) ∧ Below w.heap.size w w' := by
  have E1 : commitVals [] [7, 8] 0 1 = [7] ∧ commitLost [] [7, 8] 0 1 = 1 ∧ commitErr [] [7, 8] 0 1 = 0 := by decide
  have E2 : recvVals [7] 1 1 = [] ∧ recvLost [7] 1 1 = 1 ∧ recvV [7] 1 1 = 7 ∧ recvErr [7] 1 1 = 0 := by decide
  have E3 : checkRing [7] 1 1 = 0 := by decide
  have H1 := Lib.hid (fun W (g : Nat) (h : W.heap[g]? = some (.cells #[.int .i64 7, .int .i64 8] 3)) => mailCommit [] [7, 8] 0 1 none (some ⟨g, 0, none⟩) 0 2 W.heap.size W (Nat.le_refl _) (Sl.empty _ _ _)
    (by
      have hlt := (Array.getElem?_eq_some_iff.1 h).1
      obtain ⟨hc, _, _⟩ := blk h
      refine ⟨by simp, by unfold maxLen; omega, fun h => (by cases h), fun i hi => ?_⟩
      refine ⟨g, 0, [.int .i64 [7, 8][i]], rfl, hlt, rfl, fun j u hu => ?_⟩
      have hj : j = 0 := by have := (List.getElem?_eq_some_iff.1 hu).1; simpa using this
      subst hj
      match i, hi with
      | 0, _ => simpa [hc, cInt, Cod.flat] using hu
      | 1, _ => simpa [hc, cInt, Cod.flat] using hu) (by simp))
  rw [E1.1, E1.2.1, E1.2.2] at H1
  have H2 := Lib.hid (fun W A c (h : Sl cInt (Low W.heap.size) W A c [7]) => mailReceive [7] 1 1 A c W.heap.size W (Nat.le_refl _) h)
  rw [E2.1, E2.2.1, E2.2.2.1, E2.2.2.2] at H2
  have H3 := Lib.hid (fun W A c B (hB : B ≤ W.heap.size) (h : Sl cInt (Low B) W A c [7]) => mailCheck [7] 1 1 A c B W hB h)
  rw [E3] at H3
  clear E1 E2 E3
  go_enter Try.func19, Try.ntmps19
  go_wp2_with fail
  (go_at_call 13; refine (H1.out _ _ (by (repeat (first | with_reducible exact heap_set2 (by with_reducible assumption) | with_reducible exact heap_set2 (heapAt _ _ _ rfl) | with_reducible exact heap_set1 (by with_reducible assumption) | with_reducible exact heap_set1 (heapAt _ _ _ rfl) | with_reducible assumption | (with_reducible refine heapAt _ _ _ ?_; first | rfl | (first | omega | (simp <;> omega))) | (with_reducible refine heap_drew ?_) | (with_reducible refine heap_drewN ?_) | (with_reducible refine (heap_alloc_old _ _ ?_).trans ?_; (first | omega | (simp <;> omega))) | (with_reducible refine heap_set_far ?_ ?_; rotate_left; (first | omega | (simp <;> omega))))))).mono ?_; rintro e w1 ⟨A1, c1, rfl, hown, hb_w1⟩; refine have_then (P := Below w.heap.size w w1) ?_ (fun h_w1 => ?_); (focus ((repeat (first | with_reducible exact Below.refl _ _ | with_reducible assumption | (with_reducible refine Below.drew ?_) | (with_reducible refine Below.alloc ?_ ?_ _; rotate_left; (first | omega | (simp <;> omega))) | (with_reducible refine Below.setCell ?_ ?_ _; rotate_left; (first | omega | (simp <;> omega))) | (with_reducible refine below_drewN ?_ _) | (refine Below.trans ?_ (Below.mono (by with_reducible assumption) (by first | omega | (simp <;> omega)))))); done)); have s_w1 := Below.size h_w1; have t_w1 := Below.size hb_w1; (try simp at t_w1); revert hb_w1; intro hb_w1)
  go_wp2_with fail
  have hs1 := own_int rfl hown
  (go_at_call 14; refine (H2.out _ _ _ ((hs1.keepI (by repeat (first | with_reducible exact KeepI.refl _ _ | with_reducible assumption | (with_reducible refine KeepI.drew ?_) | (with_reducible refine KeepI.drewN ?_ _) | ((with_reducible refine KeepI.alloc ?_ ?_ _); rotate_left; (intro kkI hkI; simp only [Low, Rng, LoR] at hkI; first | omega | (simp <;> omega) | (rcases hkI with hkI | hkI <;> first | omega | (simp <;> omega)))) | ((with_reducible refine KeepI.setCell ?_ ?_ _); rotate_left; (intro hkI; simp only [Low, Rng, LoR] at hkI; first | omega | (simp at hkI <;> omega))) | (refine KeepI.call ?_ (by with_reducible assumption) (by (intro kkI hkI; simp only [Low, Rng, LoR] at hkI; first | omega | (simp <;> omega) | (rcases hkI with hkI | hkI <;> first | omega | (simp <;> omega)))))))).rng (by first | omega | (simp <;> omega)))).mono ?_; rintro e w2 ⟨A2, c2, rfl, hown2, hb_w2⟩; refine have_then (P := w2.heap[w1.heap.size]? = some (.cells #[.slice A1 1 c1, .int .i64 1] 24)) ?_ (fun x_w2 => ?_); (focus (refine (hb_w2.block _ ?_).trans ?_; (first | omega | (simp <;> omega)); (repeat (first | with_reducible exact heap_set2 (by with_reducible assumption) | with_reducible exact heap_set2 (heapAt _ _ _ rfl) | with_reducible exact heap_set1 (by with_reducible assumption) | with_reducible exact heap_set1 (heapAt _ _ _ rfl) | with_reducible assumption | (with_reducible refine heapAt _ _ _ ?_; first | rfl | (first | omega | (simp <;> omega))) | (with_reducible refine heap_drew ?_) | (with_reducible refine heap_drewN ?_) | (with_reducible refine (heap_alloc_old _ _ ?_).trans ?_; (first | omega | (simp <;> omega))) | (with_reducible refine heap_set_far ?_ ?_; rotate_left; (first | omega | (simp <;> omega))))); done)); obtain ⟨cx_w2, fx_w2, zx_w2⟩ := blk x_w2; refine have_then (P := Below w.heap.size w w2) ?_ (fun h_w2 => ?_); (focus ((repeat (first | with_reducible exact Below.refl _ _ | with_reducible assumption | (with_reducible refine Below.drew ?_) | (with_reducible refine Below.alloc ?_ ?_ _; rotate_left; (first | omega | (simp <;> omega))) | (with_reducible refine Below.setCell ?_ ?_ _; rotate_left; (first | omega | (simp <;> omega))) | (with_reducible refine below_drewN ?_ _) | (refine Below.trans ?_ (Below.mono (by with_reducible assumption) (by first | omega | (simp <;> omega)))))); done)); have s_w2 := Below.size h_w2; have t_w2 := Below.size hb_w2; (try simp at t_w2); revert hb_w2; intro hb_w2)
  go_wp2_with (go_at_call 20; refine (H3.out _ A1 c1 w1.heap.size (by first | omega | (simp <;> omega)) ((hs1.keepI (by repeat (first | with_reducible exact KeepI.refl _ _ | with_reducible assumption | (with_reducible refine KeepI.drew ?_) | (with_reducible refine KeepI.drewN ?_ _) | ((with_reducible refine KeepI.alloc ?_ ?_ _); rotate_left; (intro kkI hkI; simp only [Low, Rng, LoR] at hkI; first | omega | (simp <;> omega) | (rcases hkI with hkI | hkI <;> first | omega | (simp <;> omega)))) | ((with_reducible refine KeepI.setCell ?_ ?_ _); rotate_left; (intro hkI; simp only [Low, Rng, LoR] at hkI; first | omega | (simp at hkI <;> omega))) | (refine KeepI.call ?_ (by with_reducible assumption) (by (intro kkI hkI; simp only [Low, Rng, LoR] at hkI; first | omega | (simp <;> omega) | (rcases hkI with hkI | hkI <;> first | omega | (simp <;> omega)))))))).rng (by first | omega | (simp <;> omega)))).mono ?_; rintro e w3 ⟨rfl, hb3⟩)
  go_ret
  exact ⟨rfl, (by repeat (first | with_reducible exact Below.refl _ _ | with_reducible assumption | (with_reducible refine Below.drew ?_) | (with_reducible refine Below.alloc ?_ ?_ _; rotate_left; (first | omega | (simp <;> omega))) | (with_reducible refine Below.setCell ?_ ?_ _; rotate_left; (first | omega | (simp <;> omega))) | (with_reducible refine below_drewN ?_ _) | (refine Below.trans ?_ (Below.mono (by with_reducible assumption) (by first | omega | (simp <;> omega))))))⟩
end Go.Proofs.Ytinlmkhlgclbfaa
