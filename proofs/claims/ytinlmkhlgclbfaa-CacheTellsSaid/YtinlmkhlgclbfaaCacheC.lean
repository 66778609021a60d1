/-
  CacheC: contracts of cache.Clear, Flush.
-/
import Derived.Test.YtinlmkhlgclbfaaCacheN
namespace Go.Proofs.Ytinlmkhlgclbfaa
open Go.RowKit
set_option maxRecDepth 100000
set_option maxHeartbeats 400000

/-- what a flush costs, so far -/
def flushAt (c : List (List TWay)) (i k : Nat) : Int := 2 + 5 * ((((c.take i).map dirties).sum + dirties ((nth c i).take k) : Nat) : Int)
theorem flushAt_zero (c : List (List TWay)) : flushAt c 0 0 = 2 := by simp [flushAt, dirties]
theorem flushAt_step {c : List (List TWay)} {i k : Nat} (h : k < (nth c i).length) : flushAt c i (k + 1) = if (nth (nth c i) k).dirty then flushAt c i k + 5 else flushAt c i k := by
  unfold flushAt
  rw [take_snoc h]
  unfold dirties
  rw [List.filter_append, List.length_append]
  cases hd : (nth (nth c i) k).dirty <;> simp [hd] <;> omega
theorem flushAt_set {c : List (List TWay)} {i : Nat} (h : i < c.length) : flushAt c (i + 1) 0 = flushAt c i (nth c i).length := by
  unfold flushAt
  rw [take_snoc h, List.map_append, List.sum_append, List.take_length]
  simp [dirties]
theorem flushAt_end (c : List (List TWay)) : flushAt c c.length 0 = flushOf c := by simp [flushAt, flushOf, dirties]
theorem flushAt_bd {c : List (List TWay)} (h : c.length ≤ 4) (h3 : ∀ i, i < c.length → (nth c i).length ≤ 3) (i k : Nat) (hi : i ≤ c.length) (hk : i < c.length ∨ k = 0) : 2 ≤ flushAt c i k ∧ flushAt c i k ≤ 1000 := by
  unfold flushAt
  have h1 : ((c.take i).map dirties).sum ≤ ((c.take i).map dirties).length * 3 := sum_le (by
    intro x hx
    obtain ⟨ws, hws, rfl⟩ := List.mem_map.1 hx
    obtain ⟨j, hj, rfl⟩ := List.getElem_of_mem (List.mem_of_mem_take hws)
    have := h3 j hj
    rw [nth_eq hj] at this
    exact Nat.le_trans (List.length_filter_le _ _) this)
  rw [List.length_map, List.length_take] at h1
  have h2 : dirties ((nth c i).take k) ≤ 3 := by
    rcases hk with hk | rfl
    · exact Nat.le_trans (List.length_filter_le _ _) (Nat.le_trans (List.length_take_le' _ _) (h3 i hk))
    · simp [dirties]
  omega

theorem cacheClear (c : List (List TWay)) (ok : CacheOk c) (A : Option Addr) (n B : Nat) (w : World) (hB : B ≤ w.heap.size) (hs : Sl cWay.slice (Low B) w A n c) :
    Calls Try.prog 72 #[.agg #[.slice A c.length n]] w (RetCacheI (emptyCache c.length (nth c 0).length) (flushOf c) w) := by
  have h4 := ok.h4
  have h0 : 0 < c.length := ok.h1
  have hw3 := ok.w3
  have h3 : ∀ i, i < c.length → (nth c i).length ≤ 3 := fun i hi => by rw [ok.same i hi]; exact hw3
  have HBD := Lib.hid (flushAt_bd h4 h3)
  have H3 := Lib.hid h3
  have H := Lib.hid (fun W => cacheEmpty c.length (nth c 0).length W (by omega) (by omega))
  have HL := Lib.hid (show (emptyCache c.length (nth c 0).length).length = c.length by simp [emptyCache])
  generalize emptyCache c.length (nth c 0).length = ec at *
  clear h3 ok
  go_enter Try.func72, Try.ntmps72
  go_wp2_with fail
  go_loopw [4, 12] (fun nv iv wr => ∃ i : Nat, i ≤ c.length ∧ iv = .int .i64 i ∧ nv = .int .i64 (flushAt c i 0) ∧ wr.heap[w.heap.size]? = some (.cells #[.slice A c.length n] 44) ∧ wr.heap[w.heap.size + 1]? = some (.cells #[.slice none 0 0] 44) ∧ Below w.heap.size w wr) (fun _ iv _ => c.length - (intOf iv).toNat)
  case atStart => exact ⟨0, Nat.zero_le _, rfl, by rw [flushAt_zero], (by (repeat (first | with_reducible exact heap_set2 (by with_reducible assumption) | with_reducible exact heap_set2 (heapAt _ _ _ rfl) | with_reducible exact heap_set1 (by with_reducible assumption) | with_reducible exact heap_set1 (heapAt _ _ _ rfl) | with_reducible assumption | (with_reducible refine heapAt _ _ _ ?_; first | rfl | (first | omega | (simp <;> omega))) | (with_reducible refine heap_drew ?_) | (with_reducible refine heap_drewN ?_) | (with_reducible refine (heap_alloc_old _ _ ?_).trans ?_; (first | omega | (simp <;> omega))) | (with_reducible refine heap_set_far ?_ ?_; rotate_left; (first | omega | (simp <;> omega)))))), (by (repeat (first | with_reducible exact heap_set2 (by with_reducible assumption) | with_reducible exact heap_set2 (heapAt _ _ _ rfl) | with_reducible exact heap_set1 (by with_reducible assumption) | with_reducible exact heap_set1 (heapAt _ _ _ rfl) | with_reducible assumption | (with_reducible refine heapAt _ _ _ ?_; first | rfl | (first | omega | (simp <;> omega))) | (with_reducible refine heap_drew ?_) | (with_reducible refine heap_drewN ?_) | (with_reducible refine (heap_alloc_old _ _ ?_).trans ?_; (first | omega | (simp <;> omega))) | (with_reducible refine heap_set_far ?_ ?_; rotate_left; (first | omega | (simp <;> omega)))))), (by repeat (first | with_reducible exact Below.refl _ _ | with_reducible assumption | (with_reducible refine Below.drew ?_) | (with_reducible refine Below.alloc ?_ ?_ _; rotate_left; (first | omega | (simp <;> omega))) | (with_reducible refine Below.setCell ?_ ?_ _; rotate_left; (first | omega | (simp <;> omega))) | (with_reducible refine below_drewN ?_ _) | (refine Below.trans ?_ (Below.mono (by with_reducible assumption) (by first | omega | (simp <;> omega))))))⟩
  case round =>
    obtain ⟨i, hi, rfl, rfl, hp, hr, hbr⟩ := hrel
    obtain ⟨wo, rfl⟩ : ∃ wo : World, wo = wr := ⟨_, rfl⟩
    obtain ⟨cp, fp, zp⟩ := blk hp
    obtain ⟨cr, fr, zr⟩ := blk hr
    have so := hbr.size
    by_cases hlt : i < c.length
    · obtain ⟨b, o, A1, c1, rfl, hI, hcell, hin⟩ := (hs.next hB hbr).at_slice hlt
      have hl3 := H3.out i hlt
      go_wp2_with fail
      go_loopw [4, 18] (fun nv kv wr => ∃ k : Nat, k ≤ (nth c i).length ∧ kv = .int .i64 k ∧ nv = .int .i64 (flushAt c i k) ∧ wr.heap[w.heap.size]? = some (.cells #[.slice (some ⟨b, o, none⟩) c.length n] 44) ∧ wr.heap[w.heap.size + 1]? = some (.cells #[.slice none 0 0] 44) ∧ Below wo.heap.size wo wr) (fun _ kv _ => (nth c i).length - (intOf kv).toNat)
      case atStart => exact ⟨0, Nat.zero_le _, rfl, rfl, hp, hr, Below.refl _ _⟩
      case round =>
        obtain ⟨k, hk, rfl, rfl, hp, hr, hbi⟩ := hrel
        obtain ⟨cp, fp, zp⟩ := blk hp
        obtain ⟨cr, fr, zr⟩ := blk hr
        have si := hbi.size
        obtain ⟨d1, d2⟩ := HBD.out i k (by omega) (.inl hlt)
        by_cases hkt : k < (nth c i).length
        · obtain ⟨b', o', rfl, hI', hc0, hc1⟩ := (hin.next (Nat.le_trans hB so) hbi).at_way hkt
          have hst := Lib.hid (flushAt_step hkt)
          cases hd : (nth (nth c i) k).dirty
          all_goals
            rw [hd] at hc1
            have E := Lib.hid hd
            clear hd
            go_wp2_with fail
            go_roundw
            case rel => exact ⟨k + 1, by omega, by go_num, by rw [hst.out, E.out]; rfl, (by (repeat (first | with_reducible exact heap_set2 (by with_reducible assumption) | with_reducible exact heap_set2 (heapAt _ _ _ rfl) | with_reducible exact heap_set1 (by with_reducible assumption) | with_reducible exact heap_set1 (heapAt _ _ _ rfl) | with_reducible assumption | (with_reducible refine heapAt _ _ _ ?_; first | rfl | (first | omega | (simp <;> omega))) | (with_reducible refine heap_drew ?_) | (with_reducible refine heap_drewN ?_) | (with_reducible refine (heap_alloc_old _ _ ?_).trans ?_; (first | omega | (simp <;> omega))) | (with_reducible refine heap_set_far ?_ ?_; rotate_left; (first | omega | (simp <;> omega)))))), (by (repeat (first | with_reducible exact heap_set2 (by with_reducible assumption) | with_reducible exact heap_set2 (heapAt _ _ _ rfl) | with_reducible exact heap_set1 (by with_reducible assumption) | with_reducible exact heap_set1 (heapAt _ _ _ rfl) | with_reducible assumption | (with_reducible refine heapAt _ _ _ ?_; first | rfl | (first | omega | (simp <;> omega))) | (with_reducible refine heap_drew ?_) | (with_reducible refine heap_drewN ?_) | (with_reducible refine (heap_alloc_old _ _ ?_).trans ?_; (first | omega | (simp <;> omega))) | (with_reducible refine heap_set_far ?_ ?_; rotate_left; (first | omega | (simp <;> omega)))))), (by repeat (first | with_reducible exact Below.refl _ _ | with_reducible assumption | (with_reducible refine Below.drew ?_) | (with_reducible refine Below.alloc ?_ ?_ _; rotate_left; (first | omega | (simp <;> omega))) | (with_reducible refine Below.setCell ?_ ?_ _; rotate_left; (first | omega | (simp <;> omega))) | (with_reducible refine below_drewN ?_ _) | (refine Below.trans ?_ (Below.mono (by with_reducible assumption) (by first | omega | (simp <;> omega))))))⟩
            case measure => simp [intOf]; omega
        · obtain rfl : k = (nth c i).length := by omega
          have hst := Lib.hid (flushAt_set hlt)
          go_wp2_with fail
          go_roundw
          case rel => exact ⟨i + 1, by omega, by go_num, by rw [hst.out], hp, hr, hbr.trans (hbi.mono so)⟩
          case measure => simp [intOf]; omega
    · obtain rfl : i = c.length := by omega
      have HF := Lib.hid (flushAt_end c)
      generalize flushAt c c.length 0 = fl at *
      obtain ⟨b, o, A1, c1, rfl, hI, hcell, hin⟩ := (hs.next hB hbr).at_slice h0
      rw [Nat.add_zero] at hcell
      have hm1 : (nth c 0).length ≤ 3 := H3.out 0 h0
      have hbl : b < wo.heap.size := Nat.lt_of_lt_of_le hI (Nat.le_trans hB so)
      have hq0 : (0 : Int) < c.length := by omega
      have hbw : b < w.heap.size := Nat.lt_of_lt_of_le hI hB
      have hne1 : b ≠ w.heap.size + 1 := by omega
      have hne2 : w.heap.size + 1 ≠ b := by omega
      have hcp : wo.cell? ⟨w.heap.size, 0, none⟩ = some (.slice (some ⟨b, o, none⟩) c.length n) := (cp 0).trans rfl
      go_wp2_with fail
      go_region_held3 (fun w' => w'.cell? ⟨w.heap.size, 0, none⟩ = some (.slice (some ⟨b, o, none⟩) c.length n) ∧ w'.cell? ⟨b, o, none⟩ = some (.slice A1 (nth c 0).length c1)) (((try dsimp only); (repeat' apply And.intro) <;> (first | go_keep | (simp [go_sem, *]; done))))
        (first | (go_at_call 69; refine (H.out _).mono ?_; rintro e w1 ⟨A2, c2, rfl, hO, hb1⟩; have hq1 : w1.heap[w.heap.size + 1]? = some (.cells #[.slice none 0 0] 44) := (hb1.block _ (by simp; omega)).trans (by (repeat (first | with_reducible exact heap_set2 (by with_reducible assumption) | with_reducible exact heap_set2 (heapAt _ _ _ rfl) | with_reducible exact heap_set1 (by with_reducible assumption) | with_reducible exact heap_set1 (heapAt _ _ _ rfl) | with_reducible assumption | (with_reducible refine heapAt _ _ _ ?_; first | rfl | (first | omega | (simp <;> omega))) | (with_reducible refine heap_drew ?_) | (with_reducible refine heap_drewN ?_) | (with_reducible refine (heap_alloc_old _ _ ?_).trans ?_; (first | omega | (simp <;> omega))) | (with_reducible refine heap_set_far ?_ ?_; rotate_left; (first | omega | (simp <;> omega)))))); obtain ⟨cq, fq, zq⟩ := blk hq1; have k0 : w1.cell? ⟨w.heap.size, 0, none⟩ = some (.slice (some ⟨b, o, none⟩) c.length n) := (hb1.cell (p := ⟨w.heap.size, 0, none⟩) (by simp; omega)).trans hcp; have k1 : w1.cell? ⟨b, o, none⟩ = some (.slice A1 (nth c 0).length c1) := (hb1.cell (p := ⟨b, o, none⟩) (by simp; omega)).trans hcell))
      all_goals
        have s1 := hb1.size
        go_wp2_with fail
        refine bodyPost_ret (v := .tuple #[.agg #[.slice A2 ec.length c2], .int .i64 fl]) (by simp [results, Try.results72, go_sem, *]) rfl ?_
        rw [HF.out]
        refine ⟨A2, c2, rfl, OSl.mono (OSl.keepI hO (by repeat (first | with_reducible exact KeepI.refl _ _ | with_reducible assumption | (with_reducible refine KeepI.drew ?_) | (with_reducible refine KeepI.drewN ?_ _) | ((with_reducible refine KeepI.alloc ?_ ?_ _); rotate_left; (intro kkI hkI; simp only [Low, Rng, LoR] at hkI; first | omega | (simp <;> omega) | (rcases hkI with hkI | hkI <;> first | omega | (simp <;> omega)))) | ((with_reducible refine KeepI.setCell ?_ ?_ _); rotate_left; (intro hkI; simp only [Low, Rng, LoR] at hkI; first | omega | (simp at hkI <;> omega))) | (refine KeepI.call ?_ (by with_reducible assumption) (by (intro kkI hkI; simp only [Low, Rng, LoR] at hkI; first | omega | (simp <;> omega) | (rcases hkI with hkI | hkI <;> first | omega | (simp <;> omega)))))))) ?_, (by repeat (first | with_reducible exact Below.refl _ _ | with_reducible assumption | (with_reducible refine Below.drew ?_) | (with_reducible refine Below.alloc ?_ ?_ _; rotate_left; (first | omega | (simp <;> omega))) | (with_reducible refine Below.setCell ?_ ?_ _; rotate_left; (first | omega | (simp <;> omega))) | (with_reducible refine below_drewN ?_ _) | (refine Below.trans ?_ (Below.mono (by with_reducible assumption) (by first | omega | (simp <;> omega))))))⟩
        · intro b hb; simp only [Rng] at hb ⊢; simp at hb ⊢; omega

def flushErr (c : List (List TWay)) : Int := checkCache c
def flushRes (c : List (List TWay)) : List (List TWay) := if checkCache c = 0 then emptyCache c.length (nth c 0).length else []
def flushN (c : List (List TWay)) : Int := if checkCache c = 0 then flushOf c else 0
theorem cacheFlush (c : List (List TWay)) (A : Option Addr) (n B : Nat) (w : World) (hB : B ≤ w.heap.size) (hs : Sl cWay.slice (Low B) w A n c) :
    Calls Try.prog 26 #[.agg #[.slice A c.length n]] w (RetCacheIE (flushRes c) (flushN c) (checkCache c) w) := by
  have H1 := Lib.hid (fun W (h : Below w.heap.size w W) => cacheCheck c A n B W (Nat.le_trans hB h.size) (hs.next hB h))
  by_cases h1 : checkCache c = 0
  · have H2 := Lib.hid (fun W (h : Below w.heap.size w W) => cacheClear c (checkCache_ok.1 h1) A n B W (Nat.le_trans hB h.size) (hs.next hB h))
    have E1 : flushRes c = emptyCache c.length (nth c 0).length := by simp [flushRes, h1]
    have E2 : flushN c = flushOf c := by simp [flushN, h1]
    rw [h1] at H1
    rw [E1, E2, h1]
    clear E1 E2 h1 hs
    generalize emptyCache c.length (nth c 0).length = ec at *
    generalize flushOf c = fl at *
    go_enter Try.func26, Try.ntmps26
    go_wp2_with fail
    go_at_call 33
    refine (H1.out _ (by repeat (first | with_reducible exact Below.refl _ _ | with_reducible assumption | (with_reducible refine Below.drew ?_) | (with_reducible refine Below.alloc ?_ ?_ _; rotate_left; (first | omega | (simp <;> omega))) | (with_reducible refine Below.setCell ?_ ?_ _; rotate_left; (first | omega | (simp <;> omega))) | (with_reducible refine below_drewN ?_ _) | (refine Below.trans ?_ (Below.mono (by with_reducible assumption) (by first | omega | (simp <;> omega))))))).mono ?_; skip; rintro e w1 ⟨rfl, hb1⟩; have B1 : Below w.heap.size w w1 := (by repeat (first | with_reducible exact Below.refl _ _ | with_reducible assumption | (with_reducible refine Below.drew ?_) | (with_reducible refine Below.alloc ?_ ?_ _; rotate_left; (first | omega | (simp <;> omega))) | (with_reducible refine Below.setCell ?_ ?_ _; rotate_left; (first | omega | (simp <;> omega))) | (with_reducible refine below_drewN ?_ _) | (refine Below.trans ?_ (Below.mono (by with_reducible assumption) (by first | omega | (simp <;> omega)))))); have s1 := B1.size; have z1 := hb1.size; (try simp at z1); obtain ⟨hcw1, hfw1⟩ := bcell hb1
    go_wp2_with fail
    go_at_call 72
    refine (H2.out _ (by repeat (first | with_reducible exact Below.refl _ _ | with_reducible assumption | (with_reducible refine Below.drew ?_) | (with_reducible refine Below.alloc ?_ ?_ _; rotate_left; (first | omega | (simp <;> omega))) | (with_reducible refine Below.setCell ?_ ?_ _; rotate_left; (first | omega | (simp <;> omega))) | (with_reducible refine below_drewN ?_ _) | (refine Below.trans ?_ (Below.mono (by with_reducible assumption) (by first | omega | (simp <;> omega))))))).mono ?_
    rintro e w2 ⟨A2, c2, rfl, hO, hb2⟩
    have B2 : Below w.heap.size w w2 := (by repeat (first | with_reducible exact Below.refl _ _ | with_reducible assumption | (with_reducible refine Below.drew ?_) | (with_reducible refine Below.alloc ?_ ?_ _; rotate_left; (first | omega | (simp <;> omega))) | (with_reducible refine Below.setCell ?_ ?_ _; rotate_left; (first | omega | (simp <;> omega))) | (with_reducible refine below_drewN ?_ _) | (refine Below.trans ?_ (Below.mono (by with_reducible assumption) (by first | omega | (simp <;> omega))))))
    have s2 := B2.size
    have z2 := hb2.size
    have q1 : w1.heap[w.heap.size + 1]? = some (.cells #[.slice none 0 0] 44) := (hb1.block _ (by simp)).trans (by (repeat (first | with_reducible exact heap_set2 (by with_reducible assumption) | with_reducible exact heap_set2 (heapAt _ _ _ rfl) | with_reducible exact heap_set1 (by with_reducible assumption) | with_reducible exact heap_set1 (heapAt _ _ _ rfl) | with_reducible assumption | (with_reducible refine heapAt _ _ _ ?_; first | rfl | (first | omega | (simp <;> omega))) | (with_reducible refine heap_drew ?_) | (with_reducible refine heap_drewN ?_) | (with_reducible refine (heap_alloc_old _ _ ?_).trans ?_; (first | omega | (simp <;> omega))) | (with_reducible refine heap_set_far ?_ ?_; rotate_left; (first | omega | (simp <;> omega))))))
    have q2 : w2.heap[w.heap.size + 1]? = some (.cells #[.slice none 0 0] 44) := (hb2.block _ (by omega)).trans q1
    obtain ⟨cq, fq, zq⟩ := blk q2
    go_wp2_with fail
    refine bodyPost_ret (v := .tuple #[.agg #[.slice A2 ec.length c2], .int .i64 fl, .int .i64 0]) (by simp [results, Try.results26, go_sem, *]) rfl ?_
    refine ⟨A2, c2, rfl, OSl.mono (OSl.keepI hO (by repeat (first | with_reducible exact KeepI.refl _ _ | with_reducible assumption | (with_reducible refine KeepI.drew ?_) | (with_reducible refine KeepI.drewN ?_ _) | ((with_reducible refine KeepI.alloc ?_ ?_ _); rotate_left; (intro kkI hkI; simp only [Low, Rng, LoR] at hkI; first | omega | (simp <;> omega) | (rcases hkI with hkI | hkI <;> first | omega | (simp <;> omega)))) | ((with_reducible refine KeepI.setCell ?_ ?_ _); rotate_left; (intro hkI; simp only [Low, Rng, LoR] at hkI; first | omega | (simp at hkI <;> omega))) | (refine KeepI.call ?_ (by with_reducible assumption) (by (intro kkI hkI; simp only [Low, Rng, LoR] at hkI; first | omega | (simp <;> omega) | (rcases hkI with hkI | hkI <;> first | omega | (simp <;> omega)))))))) ?_, (by repeat (first | with_reducible exact Below.refl _ _ | with_reducible assumption | (with_reducible refine Below.drew ?_) | (with_reducible refine Below.alloc ?_ ?_ _; rotate_left; (first | omega | (simp <;> omega))) | (with_reducible refine Below.setCell ?_ ?_ _; rotate_left; (first | omega | (simp <;> omega))) | (with_reducible refine below_drewN ?_ _) | (refine Below.trans ?_ (Below.mono (by with_reducible assumption) (by first | omega | (simp <;> omega))))))⟩
    · intro b hb; simp only [Rng] at hb ⊢; simp at hb ⊢; omega
  · have hne : (checkCache c != 0) = true := by simp [h1]
    have E1 : flushRes c = [] := by simp [flushRes, h1]
    have E2 : flushN c = 0 := by simp [flushN, h1]
    rw [E1, E2]
    clear E1 E2 h1 hs
    generalize checkCache c = ce at *
    go_enter Try.func26, Try.ntmps26
    go_wp2_with fail
    go_at_call 33
    refine (H1.out _ (by repeat (first | with_reducible exact Below.refl _ _ | with_reducible assumption | (with_reducible refine Below.drew ?_) | (with_reducible refine Below.alloc ?_ ?_ _; rotate_left; (first | omega | (simp <;> omega))) | (with_reducible refine Below.setCell ?_ ?_ _; rotate_left; (first | omega | (simp <;> omega))) | (with_reducible refine below_drewN ?_ _) | (refine Below.trans ?_ (Below.mono (by with_reducible assumption) (by first | omega | (simp <;> omega))))))).mono ?_; skip; rintro e w1 ⟨rfl, hb1⟩; have B1 : Below w.heap.size w w1 := (by repeat (first | with_reducible exact Below.refl _ _ | with_reducible assumption | (with_reducible refine Below.drew ?_) | (with_reducible refine Below.alloc ?_ ?_ _; rotate_left; (first | omega | (simp <;> omega))) | (with_reducible refine Below.setCell ?_ ?_ _; rotate_left; (first | omega | (simp <;> omega))) | (with_reducible refine below_drewN ?_ _) | (refine Below.trans ?_ (Below.mono (by with_reducible assumption) (by first | omega | (simp <;> omega)))))); have s1 := B1.size; have z1 := hb1.size; (try simp at z1); obtain ⟨hcw1, hfw1⟩ := bcell hb1
    go_wp2_with fail
    exact bodyPost_ret (v := .tuple #[.agg #[.slice none 0 0], .int .i64 0, .int .i64 ce]) (by simp [results, Try.results26, go_sem, *]) rfl ⟨none, 0, rfl, ocache_nil _ _, (by repeat (first | with_reducible exact Below.refl _ _ | with_reducible assumption | (with_reducible refine Below.drew ?_) | (with_reducible refine Below.alloc ?_ ?_ _; rotate_left; (first | omega | (simp <;> omega))) | (with_reducible refine Below.setCell ?_ ?_ _; rotate_left; (first | omega | (simp <;> omega))) | (with_reducible refine below_drewN ?_ _) | (refine Below.trans ?_ (Below.mono (by with_reducible assumption) (by first | omega | (simp <;> omega))))))⟩
end Go.Proofs.Ytinlmkhlgclbfaa
