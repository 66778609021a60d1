/-
  RefCacheC: contract of the reference's SameCache; the law's cacheIs.
-/
import Derived.Test.YtinlmkhlgclbfaaCacheC
import Derived.Test.YtinlmkhlgclbfaaNeqWay
namespace Go.Proofs.Ytinlmkhlgclbfaa
open Go.RowKit
set_option maxRecDepth 100000
set_option maxHeartbeats 1000000

theorem refSameCache (c d : List (List TWay)) (A A' : Option Addr) (n n' B : Nat) (w : World) (hB : B ≤ w.heap.size) (hs : Sl cWay.slice (Low B) w A n c) (ht : Sl cWay.slice (Low B) w A' n' d) (hl3 : ∀ i, i < c.length → (nth c i).length ≤ 1000000) :
    Calls Try.prog 73 #[.agg #[.slice A c.length n], .agg #[.slice A' d.length n']] w fun e w' => e = .returned (.bool (decide (c = d))) ∧ Below w.heap.size w w' := by
  have hm : c.length ≤ maxLen := Nat.le_trans hs.cap hs.max
  have hm' : d.length ≤ maxLen := Nat.le_trans ht.cap ht.max
  unfold maxLen at hm hm'
  by_cases hl : c.length = d.length
  · have hb : ((c.length : Int) != (d.length : Int)) = false := by simp [hl]
    have HL := Lib.hid hl
    clear hl
    go_enter Try.func73, Try.ntmps73
    go_wp2_with fail
    go_loopw [5] (fun iv wr => ∃ i : Nat, i ≤ c.length ∧ iv = .int .i64 i ∧ Hid (∀ j, j < i → nth c j = nth d j) ∧ wr.heap[w.heap.size]? = some (.cells #[.slice A c.length n] 44) ∧ wr.heap[w.heap.size + 1]? = some (.cells #[.slice A' d.length n'] 44) ∧ Below w.heap.size w wr) (fun iv _ => c.length - (intOf iv).toNat)
    case atStart => exact ⟨0, Nat.zero_le _, rfl, (fun j hj => by omega), (by (repeat (first | with_reducible exact heap_set2 (by with_reducible assumption) | with_reducible exact heap_set2 (heapAt _ _ _ rfl) | with_reducible exact heap_set1 (by with_reducible assumption) | with_reducible exact heap_set1 (heapAt _ _ _ rfl) | with_reducible assumption | (with_reducible refine heapAt _ _ _ ?_; first | rfl | (first | omega | (simp <;> omega))) | (with_reducible refine heap_drew ?_) | (with_reducible refine heap_drewN ?_) | (with_reducible refine (heap_alloc_old _ _ ?_).trans ?_; (first | omega | (simp <;> omega))) | (with_reducible refine heap_set_far ?_ ?_; rotate_left; (first | omega | (simp <;> omega)))))), (by (repeat (first | with_reducible exact heap_set2 (by with_reducible assumption) | with_reducible exact heap_set2 (heapAt _ _ _ rfl) | with_reducible exact heap_set1 (by with_reducible assumption) | with_reducible exact heap_set1 (heapAt _ _ _ rfl) | with_reducible assumption | (with_reducible refine heapAt _ _ _ ?_; first | rfl | (first | omega | (simp <;> omega))) | (with_reducible refine heap_drew ?_) | (with_reducible refine heap_drewN ?_) | (with_reducible refine (heap_alloc_old _ _ ?_).trans ?_; (first | omega | (simp <;> omega))) | (with_reducible refine heap_set_far ?_ ?_; rotate_left; (first | omega | (simp <;> omega)))))), (by repeat (first | with_reducible exact Below.refl _ _ | with_reducible assumption | (with_reducible refine Below.drew ?_) | (with_reducible refine Below.alloc ?_ ?_ _; rotate_left; (first | omega | (simp <;> omega))) | (with_reducible refine Below.setCell ?_ ?_ _; rotate_left; (first | omega | (simp <;> omega))) | (with_reducible refine below_drewN ?_ _) | (refine Below.trans ?_ (Below.mono (by with_reducible assumption) (by first | omega | (simp <;> omega))))))⟩
    case round =>
      obtain ⟨i, hi, rfl, hq, hp, hr, hbr⟩ := hrel
      obtain ⟨cp, fp, zp⟩ := blk hp
      obtain ⟨cr, fr, zr⟩ := blk hr
      have so := hbr.size
      obtain ⟨wo, rfl⟩ : ∃ wo : World, wo = wr := ⟨_, rfl⟩
      by_cases hlt : i < c.length
      · have hlt' : i < d.length := by have := HL.out; omega
        obtain ⟨b, o, A1, c1, rfl, hI, hcell, hin⟩ := (hs.next hB hbr).at_slice hlt
        obtain ⟨b', o', A2, c2, rfl, hI', hcell', hin'⟩ := (ht.next hB hbr).at_slice hlt'
        have hw3 := hl3 i hlt
        have hmx : (nth d i).length ≤ maxLen := Nat.le_trans hin'.cap hin'.max
        unfold maxLen at hmx
        have hi0 : (0 : Int) ≤ i := by omega
        have hi1 : (i : Int) < c.length := by omega
        have hi2 : (i : Int) < d.length := by omega
        have hbl : b < wo.heap.size := Nat.lt_of_lt_of_le hI (Nat.le_trans hB so)
        have hbl' : b' < wo.heap.size := Nat.lt_of_lt_of_le hI' (Nat.le_trans hB so)
        by_cases hll : (nth c i).length = (nth d i).length
        · have hb2 : (((nth c i).length : Int) != ((nth d i).length : Int)) = false := by simp [hll]
          have HLL := Lib.hid hll
          clear hll
          go_wp2_with fail
          go_quiet (fail)
          go_wp2_with fail
          go_loopw [6] (fun kv wr => ∃ k : Nat, k ≤ (nth c i).length ∧ kv = .int .i64 k ∧ Hid (∀ j, j < k → nth (nth c i) j = nth (nth d i) j) ∧ wr.heap[w.heap.size]? = some (.cells #[.slice (some ⟨b, o, none⟩) c.length n] 44) ∧ wr.heap[w.heap.size + 1]? = some (.cells #[.slice (some ⟨b', o', none⟩) d.length n'] 44) ∧ Below wo.heap.size wo wr) (fun kv _ => (nth c i).length - (intOf kv).toNat)
          case atStart => exact ⟨0, Nat.zero_le _, rfl, (fun j hj => by omega), (by (repeat (first | with_reducible exact heap_set2 (by with_reducible assumption) | with_reducible exact heap_set2 (heapAt _ _ _ rfl) | with_reducible exact heap_set1 (by with_reducible assumption) | with_reducible exact heap_set1 (heapAt _ _ _ rfl) | with_reducible assumption | (with_reducible refine heapAt _ _ _ ?_; first | rfl | (first | omega | (simp <;> omega))) | (with_reducible refine heap_drew ?_) | (with_reducible refine heap_drewN ?_) | (with_reducible refine (heap_alloc_old _ _ ?_).trans ?_; (first | omega | (simp <;> omega))) | (with_reducible refine heap_set_far ?_ ?_; rotate_left; (first | omega | (simp <;> omega)))))), (by (repeat (first | with_reducible exact heap_set2 (by with_reducible assumption) | with_reducible exact heap_set2 (heapAt _ _ _ rfl) | with_reducible exact heap_set1 (by with_reducible assumption) | with_reducible exact heap_set1 (heapAt _ _ _ rfl) | with_reducible assumption | (with_reducible refine heapAt _ _ _ ?_; first | rfl | (first | omega | (simp <;> omega))) | (with_reducible refine heap_drew ?_) | (with_reducible refine heap_drewN ?_) | (with_reducible refine (heap_alloc_old _ _ ?_).trans ?_; (first | omega | (simp <;> omega))) | (with_reducible refine heap_set_far ?_ ?_; rotate_left; (first | omega | (simp <;> omega)))))), below_drewN (Below.refl _ _) _⟩
          case round =>
            obtain ⟨k, hk, rfl, hq2, hp, hr, hbk⟩ := hrel
            obtain ⟨cp, fp, zp⟩ := blk hp
            obtain ⟨cr, fr, zr⟩ := blk hr
            have sk := hbk.size
            have hbu : Below w.heap.size w wr := hbr.trans (hbk.mono so)
            have hcellu : wr.cell? ⟨b, o + i, none⟩ = some (.slice A1 (nth c i).length c1) := (hbk.cell (p := ⟨b, o + i, none⟩) hbl).trans hcell
            have hcellu' : wr.cell? ⟨b', o' + i, none⟩ = some (.slice A2 (nth d i).length c2) := (hbk.cell (p := ⟨b', o' + i, none⟩) hbl').trans hcell'
            by_cases hkt : k < (nth c i).length
            · have hkt' : k < (nth d i).length := by have := HLL.out; omega
              obtain ⟨b2, o2, rfl, hI2, hc0, hc1⟩ := (hin.next (Nat.le_trans hB so) hbk).at_way hkt
              obtain ⟨b3, o3, rfl, hI3, hd0, hd1⟩ := (hin'.next (Nat.le_trans hB so) hbk).at_way hkt'
              have hk0 : (0 : Int) ≤ k := by omega
              have hk1 : (k : Int) < (nth c i).length := by omega
              have hk2 : (k : Int) < (nth d i).length := by omega
              have hneq := fun w => neqWay (nth (nth c i) k) (nth (nth d i) k) w
              have hgd := guardWay
              cases hdf : diffT (nth (nth c i) k) (nth (nth d i) k)
              · have E := Lib.hid (diffT_false.1 hdf)
                go_wp2_with fail
                go_quiet (fail)
                go_wp2_with fail
                go_roundw
                case rel => exact ⟨k + 1, by omega, by go_num, (fun j hj => by
                  by_cases e : j = k
                  · subst e; exact E.out
                  · exact hq2.out j (by omega)), (by (repeat (first | with_reducible exact heap_set2 (by with_reducible assumption) | with_reducible exact heap_set2 (heapAt _ _ _ rfl) | with_reducible exact heap_set1 (by with_reducible assumption) | with_reducible exact heap_set1 (heapAt _ _ _ rfl) | with_reducible assumption | (with_reducible refine heapAt _ _ _ ?_; first | rfl | (first | omega | (simp <;> omega))) | (with_reducible refine heap_drew ?_) | (with_reducible refine heap_drewN ?_) | (with_reducible refine (heap_alloc_old _ _ ?_).trans ?_; (first | omega | (simp <;> omega))) | (with_reducible refine heap_set_far ?_ ?_; rotate_left; (first | omega | (simp <;> omega)))))), (by (repeat (first | with_reducible exact heap_set2 (by with_reducible assumption) | with_reducible exact heap_set2 (heapAt _ _ _ rfl) | with_reducible exact heap_set1 (by with_reducible assumption) | with_reducible exact heap_set1 (heapAt _ _ _ rfl) | with_reducible assumption | (with_reducible refine heapAt _ _ _ ?_; first | rfl | (first | omega | (simp <;> omega))) | (with_reducible refine heap_drew ?_) | (with_reducible refine heap_drewN ?_) | (with_reducible refine (heap_alloc_old _ _ ?_).trans ?_; (first | omega | (simp <;> omega))) | (with_reducible refine heap_set_far ?_ ?_; rotate_left; (first | omega | (simp <;> omega)))))), below_drewN hbk _⟩
                case measure => simp [intOf]; omega
              · have E := Lib.hid (diffT_true.1 hdf)
                go_wp2_with fail
                go_quiet (fail)
                go_wp2_with fail
                go_ret
                exact ⟨ret_bool (by rw [eq_comm, decide_eq_false_iff_not]; intro e; exact E.out (by rw [e])), below_drewN hbu _⟩
            · obtain rfl : k = (nth c i).length := by omega
              go_wp2_with fail
              go_roundw
              case rel => exact ⟨i + 1, by omega, by go_num, (fun j hj => by
                by_cases e : j = i
                · subst e
                  refine List.ext_getElem HLL.out fun q h1 h2 => ?_
                  rw [← nth_eq h1, ← nth_eq h2]
                  exact hq2.out q h1
                · exact hq.out j (by omega)), (by (repeat (first | with_reducible exact heap_set2 (by with_reducible assumption) | with_reducible exact heap_set2 (heapAt _ _ _ rfl) | with_reducible exact heap_set1 (by with_reducible assumption) | with_reducible exact heap_set1 (heapAt _ _ _ rfl) | with_reducible assumption | (with_reducible refine heapAt _ _ _ ?_; first | rfl | (first | omega | (simp <;> omega))) | (with_reducible refine heap_drew ?_) | (with_reducible refine heap_drewN ?_) | (with_reducible refine (heap_alloc_old _ _ ?_).trans ?_; (first | omega | (simp <;> omega))) | (with_reducible refine heap_set_far ?_ ?_; rotate_left; (first | omega | (simp <;> omega)))))), (by (repeat (first | with_reducible exact heap_set2 (by with_reducible assumption) | with_reducible exact heap_set2 (heapAt _ _ _ rfl) | with_reducible exact heap_set1 (by with_reducible assumption) | with_reducible exact heap_set1 (heapAt _ _ _ rfl) | with_reducible assumption | (with_reducible refine heapAt _ _ _ ?_; first | rfl | (first | omega | (simp <;> omega))) | (with_reducible refine heap_drew ?_) | (with_reducible refine heap_drewN ?_) | (with_reducible refine (heap_alloc_old _ _ ?_).trans ?_; (first | omega | (simp <;> omega))) | (with_reducible refine heap_set_far ?_ ?_; rotate_left; (first | omega | (simp <;> omega)))))), hbu⟩
              case measure => simp [intOf]; omega
        · have hb2 : (((nth c i).length : Int) != ((nth d i).length : Int)) = true := by rw [bne_iff_ne]; omega
          have E := Lib.hid hll
          clear hll
          go_wp2_with fail
          go_quiet (fail)
          go_wp2_with fail
          go_ret
          exact ⟨ret_bool (by rw [eq_comm, decide_eq_false_iff_not]; intro e; exact E.out (by rw [e])), below_drewN hbr _⟩
      · obtain rfl : i = c.length := by omega
        go_wp2_with fail
        go_ret
        exact ⟨ret_bool (by
          rw [eq_comm, decide_eq_true_iff]
          refine List.ext_getElem HL.out fun q h1 h2 => ?_
          rw [← nth_eq h1, ← nth_eq h2]
          exact hq.out q h1), hbr⟩
  · have hb : ((c.length : Int) != (d.length : Int)) = true := by rw [bne_iff_ne]; omega
    have HL := Lib.hid hl
    clear hl
    go_enter Try.func73, Try.ntmps73
    go_wp2_with fail
    go_ret
    exact ⟨ret_bool (by rw [eq_comm, decide_eq_false_iff_not]; intro e; exact HL.out (by rw [e])), (by repeat (first | with_reducible exact Below.refl _ _ | with_reducible assumption | (with_reducible refine Below.drew ?_) | (with_reducible refine Below.alloc ?_ ?_ _; rotate_left; (first | omega | (simp <;> omega))) | (with_reducible refine Below.setCell ?_ ?_ _; rotate_left; (first | omega | (simp <;> omega))) | (with_reducible refine below_drewN ?_ _) | (refine Below.trans ?_ (Below.mono (by with_reducible assumption) (by first | omega | (simp <;> omega))))))⟩

def cacheIs (x : List (List TWay)) (e wn : Int) (y : List (List TWay)) : Bool := decide (e = wn) && decide (x = if wn = 0 then y else [])

theorem lawCacheIs (x y : List (List TWay)) (e wn : Int) (A A' : Option Addr) (n n' B : Nat) (w : World) (hB : B ≤ w.heap.size) (hs : Sl cWay.slice (Low B) w A n x) (ht : Sl cWay.slice (Low B) w A' n' y) (hl3 : ∀ i, i < x.length → (nth x i).length ≤ 1000000) :
    Calls Try.prog 32 #[.agg #[.slice A x.length n], .int .i64 e, .int .i64 wn, .agg #[.slice A' y.length n']] w fun en w' => en = .returned (.bool (cacheIs x e wn y)) ∧ Below w.heap.size w w' := by
  have H1 := Lib.hid (fun W (h : Below w.heap.size w W) => refSameCache x y A A' n n' B W (Nat.le_trans hB h.size) (hs.next hB h) (ht.next hB h) hl3)
  have H2 := Lib.hid (fun W (h : Below w.heap.size w W) => refSameCache x [] A none n 0 B W (Nat.le_trans hB h.size) (hs.next hB h) (Sl.empty _ _ _) hl3)
  clear hs ht
  by_cases h1 : e = wn
  · have b1 : (e == wn) = true := by simp [h1]
    by_cases h2 : wn = 0
    · have b2 : (wn != 0) = false := by simp [h2]
      have E := Lib.hid (show cacheIs x e wn y = decide (x = y) by simp [cacheIs, h1, h2])
      clear h1 h2
      go_enter Try.func32, Try.ntmps32
      go_wp2_with (go_at_call 73; refine (H1.out _ (by repeat (first | with_reducible exact Below.refl _ _ | with_reducible assumption | (with_reducible refine Below.drew ?_) | (with_reducible refine Below.alloc ?_ ?_ _; rotate_left; (first | omega | (simp <;> omega))) | (with_reducible refine Below.setCell ?_ ?_ _; rotate_left; (first | omega | (simp <;> omega))) | (with_reducible refine below_drewN ?_ _) | (refine Below.trans ?_ (Below.mono (by with_reducible assumption) (by first | omega | (simp <;> omega))))))).mono ?_; rintro e w1 ⟨rfl, hb1⟩)
      go_ret
      rw [E.out]
      exact ⟨ret_bool (by simp), (by repeat (first | with_reducible exact Below.refl _ _ | with_reducible assumption | (with_reducible refine Below.drew ?_) | (with_reducible refine Below.alloc ?_ ?_ _; rotate_left; (first | omega | (simp <;> omega))) | (with_reducible refine Below.setCell ?_ ?_ _; rotate_left; (first | omega | (simp <;> omega))) | (with_reducible refine below_drewN ?_ _) | (refine Below.trans ?_ (Below.mono (by with_reducible assumption) (by first | omega | (simp <;> omega))))))⟩
    · have b2 : (wn != 0) = true := by simp [h2]
      have E := Lib.hid (show cacheIs x e wn y = decide (x = []) by simp [cacheIs, h1, h2])
      clear h1 h2
      go_enter Try.func32, Try.ntmps32
      go_wp2_with (go_at_call 73; refine (H2.out _ (by repeat (first | with_reducible exact Below.refl _ _ | with_reducible assumption | (with_reducible refine Below.drew ?_) | (with_reducible refine Below.alloc ?_ ?_ _; rotate_left; (first | omega | (simp <;> omega))) | (with_reducible refine Below.setCell ?_ ?_ _; rotate_left; (first | omega | (simp <;> omega))) | (with_reducible refine below_drewN ?_ _) | (refine Below.trans ?_ (Below.mono (by with_reducible assumption) (by first | omega | (simp <;> omega))))))).mono ?_; rintro e w1 ⟨rfl, hb1⟩)
      go_ret
      rw [E.out]
      exact ⟨ret_bool (by simp), (by repeat (first | with_reducible exact Below.refl _ _ | with_reducible assumption | (with_reducible refine Below.drew ?_) | (with_reducible refine Below.alloc ?_ ?_ _; rotate_left; (first | omega | (simp <;> omega))) | (with_reducible refine Below.setCell ?_ ?_ _; rotate_left; (first | omega | (simp <;> omega))) | (with_reducible refine below_drewN ?_ _) | (refine Below.trans ?_ (Below.mono (by with_reducible assumption) (by first | omega | (simp <;> omega))))))⟩
  · have b1 : (e == wn) = false := by simp [h1]
    have E := Lib.hid (show cacheIs x e wn y = false by simp [cacheIs, h1])
    by_cases h2 : wn = 0
    · have b2 : (wn != 0) = false := by simp [h2]
      clear h1 h2
      go_enter Try.func32, Try.ntmps32
      go_wp2
      go_ret
      rw [E.out]
      exact ⟨ret_bool (by simp), (by repeat (first | with_reducible exact Below.refl _ _ | with_reducible assumption | (with_reducible refine Below.drew ?_) | (with_reducible refine Below.alloc ?_ ?_ _; rotate_left; (first | omega | (simp <;> omega))) | (with_reducible refine Below.setCell ?_ ?_ _; rotate_left; (first | omega | (simp <;> omega))) | (with_reducible refine below_drewN ?_ _) | (refine Below.trans ?_ (Below.mono (by with_reducible assumption) (by first | omega | (simp <;> omega))))))⟩
    · have b2 : (wn != 0) = true := by simp [h2]
      clear h1 h2
      go_enter Try.func32, Try.ntmps32
      go_wp2
      go_ret
      rw [E.out]
      exact ⟨ret_bool (by simp), (by repeat (first | with_reducible exact Below.refl _ _ | with_reducible assumption | (with_reducible refine Below.drew ?_) | (with_reducible refine Below.alloc ?_ ?_ _; rotate_left; (first | omega | (simp <;> omega))) | (with_reducible refine Below.setCell ?_ ?_ _; rotate_left; (first | omega | (simp <;> omega))) | (with_reducible refine below_drewN ?_ _) | (refine Below.trans ?_ (Below.mono (by with_reducible assumption) (by first | omega | (simp <;> omega))))))⟩
end Go.Proofs.Ytinlmkhlgclbfaa
