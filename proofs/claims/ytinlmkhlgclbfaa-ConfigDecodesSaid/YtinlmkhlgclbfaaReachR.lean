/-
  ReachR: contracts of config.Reach and of the reference's ReachOf.
-/
import Derived.Test.YtinlmkhlgclbfaaReachA
import Derived.Deep.LoopGhost
namespace Go.Proofs.Ytinlmkhlgclbfaa
open Go.RowKit
set_option maxRecDepth 100000
set_option maxHeartbeats 1000000

theorem falses_set {r : List Bool} {d : Nat} (hd : d < r.length) (h : nth r d = false) : falses (r.set d true) < falses r := by
  rcases falses_mono (r := r) (s := r.set d true) (by simp) (fun j hj e => by
    rw [nth_set hj]
    split
    · rfl
    · exact e) with e | e
  · exfalso
    have h2 : nth (r.set d true) d = true := nth_set_self hd
    rw [← e, h] at h2
    cases h2
  · exact e

/-- after the channels xs: has anything turned? -/
def TurnedIs (b : Bool) (r s : List Bool) : Prop := s.length = r.length ∧ (b = false → s = r) ∧ (b = true → falses s < falses r)
theorem TurnedIs.same {b : Bool} {r s : List Bool} {x : TChan} (h : TurnedIs b r s) (e : nth s x.src.toNat = false ∨ nth s x.dst.toNat = true) : TurnedIs b r (stepR x s) := by
  rw [stepR_same e]; exact h
theorem TurnedIs.turn {b : Bool} {r s : List Bool} {x : TChan} (h : TurnedIs b r s) (hd : x.dst.toNat < s.length) (e : nth s x.src.toNat = true) (e2 : nth s x.dst.toNat = false) : TurnedIs true r (stepR x s) := by
  rw [stepR_turn e]
  have h1 := falses_set hd e2
  refine ⟨by simp [h.1], fun h => (by cases h), fun _ => ?_⟩
  cases b
  · rw [h.2.1 rfl] at h1 ⊢; exact h1
  · have := h.2.2 rfl; omega

def GoesOn (b : Bool) (gk : Nat) (ch : List TChan) (r : List Bool) : Prop := falses r + (if b then 1 else 0) ≤ gk ∧ (b = false → passR ch r = r)

set_option maxHeartbeats 16000000 in
theorem refReachOf (c : TCfg) (ok : CfgOk c) (S : TCfgS) (i0 j0 : Nat) (hi0 : i0 < c.doms.toNat) (hj0 : j0 < c.doms.toNat) (B : Nat) (w : World) (hB : B ≤ w.heap.size) (hs : TCfg.At (Low B) w c S) :
    Calls Try.prog 44 #[.agg #[.int .i64 c.sets, .int .i64 c.ways, .int .i64 c.doms, .int .i64 c.pad, .int .i64 c.quantum, .slice S.a0 c.slots.length S.n0, .slice S.a1 c.owners.length S.n1, .slice S.a2 c.chans.length S.n2, .slice S.a3 c.tasks.length S.n3], .int .i64 i0, .int .i64 j0] w fun e w' => e = .returned (.bool (nth (reachRow c i0) j0)) ∧ Below w.heap.size w w' := by
  have hch := ok.nchans
  have HC := Lib.hid ok.chan
  obtain ⟨d1, d4⟩ := ok.doms
  have HX := Lib.hid (fun m h => reach_any (c := c) (i := i0) (n := m) hi0 h)
  generalize reachRow c i0 = RR at *
  clear ok
  obtain ⟨q0, q1, q2, q3, q4, sl, ow, ch, tk⟩ := c
  dsimp only at d1 d4 hch HC hs hi0 hj0 HX ⊢
  obtain ⟨n, rfl⟩ := Int.eq_ofNat_of_zero_le (show 0 ≤ q2 by omega)
  rw [Int.toNat_natCast] at hi0 hj0 HX
  have hn4 : n ≤ 4 := by omega
  have hn1 : 1 ≤ n := by omega
  have hmk := make_run tyBool n (by omega) (by omega)
  rw [boolCells_made] at hmk
  have y0 : (0 : Int) ≤ i0 := by omega
  have y1 : (i0 : Int) < n := by omega
  have y2 : (0 : Int) ≤ j0 := by omega
  have y3 : (j0 : Int) < n := by omega
  have hat0 : (boolCells (List.replicate n false))[i0]? = some (.bool false) := (boolCells_at (by simpa using hi0)).trans (by rw [nth_eq (by simpa using hi0)]; simp)
  (obtain ⟨a0, n0, a1, n1, a2, n2, a3, n3⟩ := S; obtain ⟨hs0, hs1, hs2, hs3⟩ := hs; dsimp only at hs0 hs1 hs2 hs3 ⊢)
  clear hs0 hs1 hs3 d1 d4
  go_enter Try.func44, Try.ntmps44
  go_wp2_with fail
  go_loopg [8] (falses (unitR n i0) + 1) (fun gk v wr => ∃ (b : Bool) (m : Nat), v = .bool b ∧ wr.heap[w.heap.size]? = some (.cells #[.int .i64 q0, .int .i64 q1, .int .i64 n, .int .i64 q3, .int .i64 q4, .slice a0 sl.length n0, .slice a1 ow.length n1, .slice a2 ch.length n2, .slice a3 tk.length n3] 63) ∧
    wr.heap[w.heap.size + 1]? = some (.cells (boolCells (iterR ch m (unitR n i0))) 4 (0, 0)) ∧ Hid (GoesOn b gk ch (iterR ch m (unitR n i0))) ∧ Below w.heap.size w wr)
  case atStart =>
    refine ⟨true, 0, rfl, (by (repeat (first | with_reducible exact heap_set2 (by with_reducible assumption) | with_reducible exact heap_set2 (heapAt _ _ _ rfl) | with_reducible exact heap_set1 (by with_reducible assumption) | with_reducible exact heap_set1 (heapAt _ _ _ rfl) | with_reducible assumption | (with_reducible refine heapAt _ _ _ ?_; first | rfl | (first | omega | (simp <;> omega))) | (with_reducible refine heap_drew ?_) | (with_reducible refine heap_drewN ?_) | (with_reducible refine (heap_alloc_old _ _ ?_).trans ?_; (first | omega | (simp <;> omega))) | (with_reducible refine heap_set_far ?_ ?_; rotate_left; (first | omega | (simp <;> omega)))))), ?_, Lib.hid ⟨by simp [iterR], fun h => (by cases h)⟩, (by repeat (first | with_reducible exact Below.refl _ _ | with_reducible assumption | (with_reducible refine Below.drew ?_) | (with_reducible refine Below.alloc ?_ ?_ _; rotate_left; (first | omega | (simp <;> omega))) | (with_reducible refine Below.setCell ?_ ?_ _; rotate_left; (first | omega | (simp <;> omega))) | (with_reducible refine below_drewN ?_ _) | (refine Below.trans ?_ (Below.mono (by with_reducible assumption) (by first | omega | (simp <;> omega))))))⟩
    simp only [iterR, unitR]
    rw [← boolCells_set]
    (repeat (first | with_reducible exact heap_set2 (by with_reducible assumption) | with_reducible exact heap_set2 (heapAt _ _ _ rfl) | with_reducible exact heap_set1 (by with_reducible assumption) | with_reducible exact heap_set1 (heapAt _ _ _ rfl) | with_reducible assumption | (with_reducible refine heapAt _ _ _ ?_; first | rfl | (first | omega | (simp <;> omega))) | (with_reducible refine heap_drew ?_) | (with_reducible refine heap_drewN ?_) | (with_reducible refine (heap_alloc_old _ _ ?_).trans ?_; (first | omega | (simp <;> omega))) | (with_reducible refine heap_set_far ?_ ?_; rotate_left; (first | omega | (simp <;> omega)))))
  case round =>
    obtain ⟨b, m, rfl, hp, hr, hG, hbr⟩ := hrel
    obtain ⟨cp, fp, zp⟩ := blk hp
    obtain ⟨cr, fr, zr⟩ := blk hr
    have so := hbr.size
    have hlr : (iterR ch m (unitR n i0)).length = n := by rw [iterR_length, unitR_length]
    cases b
    · have hR : iterR ch m (unitR n i0) = RR := HX.out m (hG.out.2 rfl)
      rw [hR] at cr hlr
      have cj := (cr j0).trans (boolCells_at (by omega))
      clear cr hmk hat0
      go_wp2_with fail
      go_ret
      exact ⟨rfl, hbr⟩
    · obtain ⟨wo, rfl⟩ : ∃ wo : World, wo = wr := ⟨_, rfl⟩
      clear hmk hat0
      have HXm := Lib.hid (show iterR ch (m + 1) (unitR n i0) = passR ch (iterR ch m (unitR n i0)) from rfl)
      generalize iterR ch m (unitR n i0) = R at *
      clear cr fr zr
      go_wp2_with fail
      go_loopw [8, 9] (fun bv iv wr => ∃ (b : Bool) (k : Nat), k ≤ ch.length ∧ bv = .bool b ∧ iv = .int .i64 k ∧ wr.heap[w.heap.size]? = some (.cells #[.int .i64 q0, .int .i64 q1, .int .i64 n, .int .i64 q3, .int .i64 q4, .slice a0 sl.length n0, .slice a1 ow.length n1, .slice a2 ch.length n2, .slice a3 tk.length n3] 63) ∧
        wr.heap[w.heap.size + 1]? = some (.cells (boolCells (passR (ch.take k) R)) 4 (0, 0)) ∧ Hid (TurnedIs b R (passR (ch.take k) R)) ∧ Below w.heap.size w wr) (fun _ iv _ => ch.length - (intOf iv).toNat)
      case atStart => exact ⟨false, 0, Nat.zero_le _, rfl, rfl, (by (repeat (first | with_reducible exact heap_set2 (by with_reducible assumption) | with_reducible exact heap_set2 (heapAt _ _ _ rfl) | with_reducible exact heap_set1 (by with_reducible assumption) | with_reducible exact heap_set1 (heapAt _ _ _ rfl) | with_reducible assumption | (with_reducible refine heapAt _ _ _ ?_; first | rfl | (first | omega | (simp <;> omega))) | (with_reducible refine heap_drew ?_) | (with_reducible refine heap_drewN ?_) | (with_reducible refine (heap_alloc_old _ _ ?_).trans ?_; (first | omega | (simp <;> omega))) | (with_reducible refine heap_set_far ?_ ?_; rotate_left; (first | omega | (simp <;> omega)))))), hr, Lib.hid ⟨rfl, fun _ => rfl, fun h => (by cases h)⟩, hbr⟩
      case round =>
        obtain ⟨b, k, hk, rfl, rfl, hp, hr, hT, hbr⟩ := hrel
        clear cp fp zp
        obtain ⟨cp, fp, zp⟩ := blk hp
        obtain ⟨cr, fr, zr⟩ := blk hr
        by_cases hkt : k < ch.length
        · obtain ⟨gb, o, rfl, hI, hc0, hc1, hc2⟩ := (hs2.next hB hbr).at_chan hkt
          have so := hbr.size
          have hbl : gb < w.heap.size := Nat.lt_of_lt_of_le hI hB
          have hbk : gb < wr.heap.size := by omega
          have hk0 : (0 : Int) ≤ k := by omega
          have hk1 : (k : Int) < ch.length := by omega
          obtain ⟨⟨s0, s1⟩, ⟨u0, u1⟩, _⟩ := HC.out k hkt
          have HS := Lib.hid (take_snoc hkt)
          generalize nth ch k = x at *
          obtain ⟨xs, xd, xz⟩ := x
          dsimp only at s0 s1 u0 u1 hc0 hc1 hc2
          obtain ⟨ks, rfl⟩ := Int.eq_ofNat_of_zero_le s0
          obtain ⟨kd, rfl⟩ := Int.eq_ofNat_of_zero_le u0
          have hks : ks < n := by omega
          have hkd : kd < n := by omega
          have hks0 : (0 : Int) ≤ ks := by omega
          have hks1 : (ks : Int) < n := by omega
          have hkd0 : (0 : Int) ≤ kd := by omega
          have hkd1 : (kd : Int) < n := by omega
          have hl2 : (passR (ch.take k) R).length = n := by rw [hT.out.1, hlr]
          have HS1 := Lib.hid (show passR (ch.take (k + 1)) R = stepR ⟨ks, kd, xz⟩ (passR (ch.take k) R) by rw [HS.out, passR_snoc])
          generalize passR (ch.take k) R = r at *
          have cs := (cr ks).trans (boolCells_at (by omega))
          have cd := (cr kd).trans (boolCells_at (by omega))
          have hset := Lib.hid (boolCells_set r kd true)
          clear cr HS
          cases e1 : nth r ks
          · rw [e1] at cs
            have HT1 := Lib.hid (hT.out.same (x := ⟨ks, kd, xz⟩) (.inl e1))
            go_wp2_with fail
            go_roundw
            case rel =>
              exact ⟨b, k + 1, by omega, rfl, by go_num, (by (repeat (first | with_reducible exact heap_set2 (by with_reducible assumption) | with_reducible exact heap_set2 (heapAt _ _ _ rfl) | with_reducible exact heap_set1 (by with_reducible assumption) | with_reducible exact heap_set1 (heapAt _ _ _ rfl) | with_reducible assumption | (with_reducible refine heapAt _ _ _ ?_; first | rfl | (first | omega | (simp <;> omega))) | (with_reducible refine heap_drew ?_) | (with_reducible refine heap_drewN ?_) | (with_reducible refine (heap_alloc_old _ _ ?_).trans ?_; (first | omega | (simp <;> omega))) | (with_reducible refine heap_set_far ?_ ?_; rotate_left; (first | omega | (simp <;> omega)))))), by rw [HS1.out, stepR_same (.inl e1)]; exact hr, Lib.hid (by rw [HS1.out]; exact HT1.out), (by repeat (first | with_reducible exact Below.refl _ _ | with_reducible assumption | (with_reducible refine Below.drew ?_) | (with_reducible refine Below.alloc ?_ ?_ _; rotate_left; (first | omega | (simp <;> omega))) | (with_reducible refine Below.setCell ?_ ?_ _; rotate_left; (first | omega | (simp <;> omega))) | (with_reducible refine below_drewN ?_ _) | (refine Below.trans ?_ (Below.mono (by with_reducible assumption) (by first | omega | (simp <;> omega))))))⟩
            case measure => simp [intOf]; omega
          · rw [e1] at cs
            cases e2 : nth r kd
            · rw [e2] at cd
              have HT1 := Lib.hid (hT.out.turn (x := ⟨ks, kd, xz⟩) (show kd < r.length by omega) e1 e2)
              go_wp2_with fail
              go_roundw
              case rel =>
                refine ⟨true, k + 1, by omega, rfl, by go_num, (by (repeat (first | with_reducible exact heap_set2 (by with_reducible assumption) | with_reducible exact heap_set2 (heapAt _ _ _ rfl) | with_reducible exact heap_set1 (by with_reducible assumption) | with_reducible exact heap_set1 (heapAt _ _ _ rfl) | with_reducible assumption | (with_reducible refine heapAt _ _ _ ?_; first | rfl | (first | omega | (simp <;> omega))) | (with_reducible refine heap_drew ?_) | (with_reducible refine heap_drewN ?_) | (with_reducible refine (heap_alloc_old _ _ ?_).trans ?_; (first | omega | (simp <;> omega))) | (with_reducible refine heap_set_far ?_ ?_; rotate_left; (first | omega | (simp <;> omega)))))), ?_, Lib.hid (by rw [HS1.out]; exact HT1.out), (by repeat (first | with_reducible exact Below.refl _ _ | with_reducible assumption | (with_reducible refine Below.drew ?_) | (with_reducible refine Below.alloc ?_ ?_ _; rotate_left; (first | omega | (simp <;> omega))) | (with_reducible refine Below.setCell ?_ ?_ _; rotate_left; (first | omega | (simp <;> omega))) | (with_reducible refine below_drewN ?_ _) | (refine Below.trans ?_ (Below.mono (by with_reducible assumption) (by first | omega | (simp <;> omega))))))⟩
                rw [HS1.out, stepR_turn e1]
                simp only [Int.toNat_natCast]
                rw [← hset.out]
                exact heap_set_same hr
              case measure => simp [intOf]; omega
            · rw [e2] at cd
              have HT1 := Lib.hid (hT.out.same (x := ⟨ks, kd, xz⟩) (.inr e2))
              go_wp2_with fail
              go_roundw
              case rel =>
                exact ⟨b, k + 1, by omega, rfl, by go_num, (by (repeat (first | with_reducible exact heap_set2 (by with_reducible assumption) | with_reducible exact heap_set2 (heapAt _ _ _ rfl) | with_reducible exact heap_set1 (by with_reducible assumption) | with_reducible exact heap_set1 (heapAt _ _ _ rfl) | with_reducible assumption | (with_reducible refine heapAt _ _ _ ?_; first | rfl | (first | omega | (simp <;> omega))) | (with_reducible refine heap_drew ?_) | (with_reducible refine heap_drewN ?_) | (with_reducible refine (heap_alloc_old _ _ ?_).trans ?_; (first | omega | (simp <;> omega))) | (with_reducible refine heap_set_far ?_ ?_; rotate_left; (first | omega | (simp <;> omega)))))), by rw [HS1.out, stepR_same (.inr e2)]; exact hr, Lib.hid (by rw [HS1.out]; exact HT1.out), (by repeat (first | with_reducible exact Below.refl _ _ | with_reducible assumption | (with_reducible refine Below.drew ?_) | (with_reducible refine Below.alloc ?_ ?_ _; rotate_left; (first | omega | (simp <;> omega))) | (with_reducible refine Below.setCell ?_ ?_ _; rotate_left; (first | omega | (simp <;> omega))) | (with_reducible refine below_drewN ?_ _) | (refine Below.trans ?_ (Below.mono (by with_reducible assumption) (by first | omega | (simp <;> omega))))))⟩
              case measure => simp [intOf]; omega
        · obtain rfl : k = ch.length := by omega
          rw [List.take_length] at hr hT
          have HG1 : Hid (∀ (e : passR ch R = (iterR ch (m + 1) (unitR n i0))), falses (iterR ch (m + 1) (unitR n i0)) + (if b then 1 else 0) < gk ∧ GoesOn b (falses (iterR ch (m + 1) (unitR n i0)) + (if b then 1 else 0)) ch (iterR ch (m + 1) (unitR n i0))) := Lib.hid (fun e => by
            obtain ⟨h1, h2, h3⟩ := hT.out
            have h4 := hG.out.1
            rw [e] at h1 h2 h3
            refine ⟨?_, Nat.le_refl _, fun hb => ?_⟩
            · cases b
              · rw [h2 rfl]; simp at h4 ⊢; omega
              · have := h3 rfl; simp at h4 ⊢; omega
            · rw [h2 hb] at e ⊢; exact e)
          obtain ⟨h8, h9⟩ := HG1.out HXm.out.symm
          rw [← HXm.out] at hr
          replace h8 := Lib.hid h8
          go_wp2_with fail
          go_roundg (falses (iterR ch (m + 1) (unitR n i0)) + (if b then 1 else 0))
          case rel => exact ⟨b, m + 1, rfl, hp, hr, Lib.hid h9, hbr⟩
          case measure => exact h8.out
end Go.Proofs.Ytinlmkhlgclbfaa
