/-
  RefCacheA: contracts of the reference's EmptyCache, FlushOf.
-/
import Derived.Test.YtinlmkhlgclbfaaCacheC
namespace Go.Proofs.Ytinlmkhlgclbfaa
open Go.RowKit
set_option maxRecDepth 100000
set_option maxHeartbeats 400000

theorem refEmptyCache (sets ways : Nat) (w : World) (h1 : sets ≤ 1000000000000) (h2 : ways ≤ 1000000000000) :
    Calls Try.prog 28 #[.int .i64 sets, .int .i64 ways] w (RetCache (emptyCache sets ways) w) := by
  have hmk := make_run tyWay ways (by omega) (by omega)
  have hlen : (emptyCache sets ways).length = sets := by simp [emptyCache]
  have HL := Lib.hid hlen
  clear hlen
  generalize hc : emptyCache sets ways = c at *
  have HC := Lib.hid (show ∀ k, k < sets → nth c k = emptySet ways by intro k hk; rw [← hc]; exact nth_replicate hk)
  clear hc
  go_enter Try.func28, Try.ntmps28
  go_wp2_with fail
  go_loopw [6] (fun iv wr => ∃ (k : Nat) (A1 : Option Addr) (c1 : Nat), k ≤ sets ∧ iv = .int .i64 k ∧ wr.heap[w.heap.size]? = some (.cells #[.slice none 0 0] 44) ∧ wr.heap[w.heap.size + 1]? = some (.cells #[.slice A1 k c1] 44) ∧
    OCache (Rng (w.heap.size + 2) wr.heap.size) wr (.slice A1 k c1) (c.take k) ∧ Below w.heap.size w wr) (fun iv _ => sets - (intOf iv).toNat)
  case atStart => exact ⟨0, none, 0, Nat.zero_le _, rfl, (by (repeat (first | with_reducible exact heap_set2 (by with_reducible assumption) | with_reducible exact heap_set2 (heapAt _ _ _ rfl) | with_reducible exact heap_set1 (by with_reducible assumption) | with_reducible exact heap_set1 (heapAt _ _ _ rfl) | with_reducible assumption | (with_reducible refine heapAt _ _ _ ?_; first | rfl | (first | omega | (simp <;> omega))) | (with_reducible refine heap_drew ?_) | (with_reducible refine heap_drewN ?_) | (with_reducible refine (heap_alloc_old _ _ ?_).trans ?_; (first | omega | (simp <;> omega))) | (with_reducible refine heap_set_far ?_ ?_; rotate_left; (first | omega | (simp <;> omega)))))), (by (repeat (first | with_reducible exact heap_set2 (by with_reducible assumption) | with_reducible exact heap_set2 (heapAt _ _ _ rfl) | with_reducible exact heap_set1 (by with_reducible assumption) | with_reducible exact heap_set1 (heapAt _ _ _ rfl) | with_reducible assumption | (with_reducible refine heapAt _ _ _ ?_; first | rfl | (first | omega | (simp <;> omega))) | (with_reducible refine heap_drew ?_) | (with_reducible refine heap_drewN ?_) | (with_reducible refine (heap_alloc_old _ _ ?_).trans ?_; (first | omega | (simp <;> omega))) | (with_reducible refine heap_set_far ?_ ?_; rotate_left; (first | omega | (simp <;> omega)))))), OSl.nil _ _ _ _, (by repeat (first | with_reducible exact Below.refl _ _ | with_reducible assumption | (with_reducible refine Below.drew ?_) | (with_reducible refine Below.alloc ?_ ?_ _; rotate_left; (first | omega | (simp <;> omega))) | (with_reducible refine Below.setCell ?_ ?_ _; rotate_left; (first | omega | (simp <;> omega))) | (with_reducible refine below_drewN ?_ _) | (refine Below.trans ?_ (Below.mono (by with_reducible assumption) (by first | omega | (simp <;> omega))))))⟩
  case round =>
    obtain ⟨k, A1, c1, hk, rfl, hr, ho, hO, hbw⟩ := hrel
    obtain ⟨cr, fr, zr⟩ := blk hr
    obtain ⟨co, fo, zo⟩ := blk ho
    have hsz := hbw.size
    by_cases hlt : k < sets
    · obtain ⟨ess, G, e1, e2, e3, e4, e5, e6⟩ := hO
      have hkl : k ≤ c.length := by rw [HL.out]; exact hk
      rw [len_take hkl] at e1 e2
      have e2 : wr.ownsRow 0 54 1 (.slice A1 k c1) k ess.flatten := e2
      have hlo : ∀ b, (Value.slice A1 k c1).ownBlock = some b → w.heap.size + 2 ≤ b := fun b hb => (e3 b hb).1
      have hk0 : (0 : Int) ≤ k := by omega
      have hk1 : (k : Int) < sets := by omega
      have HM := Lib.hid (made_own tyWay ways (by omega))
      go_wp2_with fail
      go_region_law
        (first | (refine step_app ?_ (.tmp 13) (.tmp 16) _ ?_ 0 tyWays (.slice A1 k c1) k ess.flatten ?_ ?_ (some ⟨wr.heap.size + 1, 0, none⟩) 1 1 [.slice (some ⟨wr.heap.size, 0, none⟩) ways ways] ?_ ?_ (one_one rfl) ?_ ?_ ?_ ?_; rfl; rfl; rfl; exact (by repeat (first | with_reducible exact e2 | (with_reducible refine World.ownsRow.alloc ?_ _) | (with_reducible refine own_drew ?_) | (with_reducible refine own_drewN ?_ _))); rfl; exact (src_new (by simp) rfl); (first | (unfold maxLen; omega) | (simp only [maxLen]; omega)); (omega); (exact Nat.zero_le _); intro A3 c3 w3 hown3 hg_w3 hat_w3; refine have_then (P := w3.heap[w.heap.size]? = some (.cells #[.slice none 0 0] 44)) ?_ (fun r_w3 => ?_); (focus (refine (hg_w3.block _ ?_ ?_).trans ?_; (first | omega | (simp <;> omega)); (intro e; have hlt := hlo _ e.symm; omega); (repeat (first | with_reducible exact heap_set2 (by with_reducible assumption) | with_reducible exact heap_set2 (heapAt _ _ _ rfl) | with_reducible exact heap_set1 (by with_reducible assumption) | with_reducible exact heap_set1 (heapAt _ _ _ rfl) | with_reducible assumption | (with_reducible refine heapAt _ _ _ ?_; first | rfl | (first | omega | (simp <;> omega))) | (with_reducible refine heap_drew ?_) | (with_reducible refine heap_drewN ?_) | (with_reducible refine (heap_alloc_old _ _ ?_).trans ?_; (first | omega | (simp <;> omega))) | (with_reducible refine heap_set_far ?_ ?_; rotate_left; (first | omega | (simp <;> omega))))); done)); obtain ⟨cr_w3, fr_w3, zr_w3⟩ := blk r_w3; refine have_then (P := w3.heap[w.heap.size + 1]? = some (.cells #[.slice A1 k c1] 44)) ?_ (fun o_w3 => ?_); (focus (refine (hg_w3.block _ ?_ ?_).trans ?_; (first | omega | (simp <;> omega)); (intro e; have hlt := hlo _ e.symm; omega); (repeat (first | with_reducible exact heap_set2 (by with_reducible assumption) | with_reducible exact heap_set2 (heapAt _ _ _ rfl) | with_reducible exact heap_set1 (by with_reducible assumption) | with_reducible exact heap_set1 (heapAt _ _ _ rfl) | with_reducible assumption | (with_reducible refine heapAt _ _ _ ?_; first | rfl | (first | omega | (simp <;> omega))) | (with_reducible refine heap_drew ?_) | (with_reducible refine heap_drewN ?_) | (with_reducible refine (heap_alloc_old _ _ ?_).trans ?_; (first | omega | (simp <;> omega))) | (with_reducible refine heap_set_far ?_ ?_; rotate_left; (first | omega | (simp <;> omega))))); done)); obtain ⟨co_w3, fo_w3, zo_w3⟩ := blk o_w3; refine have_then (P := Below w.heap.size w w3) ?_ (fun h_w3 => ?_); (focus (refine Below.grown ?_ hg_w3 ?_ ?_; (focus ((repeat (first | with_reducible exact Below.refl _ _ | with_reducible assumption | (with_reducible refine Below.drew ?_) | (with_reducible refine Below.alloc ?_ ?_ _; rotate_left; (first | omega | (simp <;> omega))) | (with_reducible refine Below.setCell ?_ ?_ _; rotate_left; (first | omega | (simp <;> omega))) | (with_reducible refine below_drewN ?_ _) | (refine Below.trans ?_ (Below.mono (by with_reducible assumption) (by first | omega | (simp <;> omega)))))); done)); (first | exact Nat.le_refl _ | exact Below.size (by assumption) | omega | (simp <;> omega)); (intro kk hkk; have hlt := hlo _ hkk; omega); done)); have s_w3 := Below.size h_w3; have t_w3 := hg_w3.size; (try simp at t_w3)))
      all_goals
        go_wp2_with fail
        go_roundw
        case rel =>
          refine ⟨k + 1, A3, c3, by omega, by go_num, (by (repeat (first | with_reducible exact heap_set2 (by with_reducible assumption) | with_reducible exact heap_set2 (heapAt _ _ _ rfl) | with_reducible exact heap_set1 (by with_reducible assumption) | with_reducible exact heap_set1 (heapAt _ _ _ rfl) | with_reducible assumption | (with_reducible refine heapAt _ _ _ ?_; first | rfl | (first | omega | (simp <;> omega))) | (with_reducible refine heap_drew ?_) | (with_reducible refine heap_drewN ?_) | (with_reducible refine (heap_alloc_old _ _ ?_).trans ?_; (first | omega | (simp <;> omega))) | (with_reducible refine heap_set_far ?_ ?_; rotate_left; (first | omega | (simp <;> omega)))))), ?_, ?_, (by repeat (first | with_reducible exact Below.refl _ _ | with_reducible assumption | (with_reducible refine Below.drew ?_) | (with_reducible refine Below.alloc ?_ ?_ _; rotate_left; (first | omega | (simp <;> omega))) | (with_reducible refine Below.setCell ?_ ?_ _; rotate_left; (first | omega | (simp <;> omega))) | (with_reducible refine below_drewN ?_ _) | (refine Below.trans ?_ (Below.mono (by with_reducible assumption) (by first | omega | (simp <;> omega))))))⟩
          · have := heap_set_same (i := 0) (u := .slice A3 (k + 1) c3) o_w3
            simpa using this
          · unfold OCache
            have hlc : k < c.length := by rw [HL.out]; exact hlt
            rw [take_snoc hlc, HC.out k hlt]
            have hl1 : (c.take k).length = k := len_take hkl
            refine osl_step (F := Rng (w.heap.size + 2) wr.heap.size) (Fx := Rng wr.heap.size (wr.heap.size + 1)) (es := [.slice (some ⟨wr.heap.size, 0, none⟩) ways ways]) (by rw [hl1]; exact e1) e4 e5 e6 e3 hg_w3 hat_w3 (by rw [hl1]; exact hown3) ⟨.slice (some ⟨wr.heap.size, 0, none⟩) ways ways, rfl, osl_flat.2 ⟨?_, ?_⟩⟩ (by repeat (first | with_reducible exact KeepI.refl _ _ | with_reducible assumption | (with_reducible refine KeepI.drew ?_) | (with_reducible refine KeepI.drewN ?_ _) | ((with_reducible refine KeepI.alloc ?_ ?_ _); rotate_left; (intro kkI hkI; simp only [Low, Rng, LoR] at hkI; first | omega | (simp <;> omega) | (rcases hkI with hkI | hkI <;> first | omega | (simp <;> omega)))) | ((with_reducible refine KeepI.setCell ?_ ?_ _); rotate_left; (intro hkI; simp only [Low, Rng, LoR] at hkI; first | omega | (simp at hkI <;> omega))) | (refine KeepI.call ?_ (by with_reducible assumption) (by (intro kkI hkI; simp only [Low, Rng, LoR] at hkI; first | omega | (simp <;> omega) | (rcases hkI with hkI | hkI <;> first | omega | (simp <;> omega))))))) ?_ ?_ ?_ ?_ ?_
            · have := HM.out wr.drew wr.heap.size rfl
              rw [show (emptySet ways).length = ways by simp [emptySet]]
              unfold emptySet
              rw [replicate_flatMap]
              exact World.ownsRow.alloc this _
            · intro b hb; simp [Value.ownBlock] at hb; simp only [Rng]; omega
            · intro b hb hb'; simp only [Rng] at hb hb'; omega
            · intro b hb; simp only [Rng] at hb; simp; omega
            · intro b hb; simp only [Rng] at hb ⊢; simp; omega
            · intro b hb hb'; simp only [Rng]; simp at hb ⊢; omega
            · (repeat (first | with_reducible exact KeepI.refl _ _ | with_reducible assumption | (with_reducible refine KeepI.drew ?_) | (with_reducible refine KeepI.drewN ?_ _) | ((with_reducible refine KeepI.alloc ?_ ?_ _); rotate_left; (intro kkI hkI; simp only [Low, Rng, LoR] at hkI; first | omega | (simp <;> omega) | (rcases hkI with hkI | hkI <;> first | omega | (simp <;> omega)))) | ((with_reducible refine KeepI.setCell ?_ ?_ _); rotate_left; (intro hkI; simp only [Low, Rng, LoR] at hkI; first | omega | (simp at hkI <;> omega))) | (refine KeepI.call ?_ (by with_reducible assumption) (by (intro kkI hkI; simp only [Low, Rng, LoR] at hkI; first | omega | (simp <;> omega) | (rcases hkI with hkI | hkI <;> first | omega | (simp <;> omega)))))))
        case measure => simp [intOf]; omega
    · obtain rfl : k = sets := by omega
      have hO : OCache (Rng (w.heap.size + 2) wr.heap.size) wr (.slice A1 k c1) c := by rw [← HL.out, List.take_length, HL.out] at hO; exact hO
      go_wp2_with fail
      refine bodyPost_ret (v := .agg #[.slice A1 k c1]) (by simp [results, Try.results28, go_sem, *]) rfl ?_
      refine ⟨A1, c1, by rw [HL.out], OSl.mono (OSl.keepI (by rw [HL.out]; exact hO) (by repeat (first | with_reducible exact KeepI.refl _ _ | with_reducible assumption | (with_reducible refine KeepI.drew ?_) | (with_reducible refine KeepI.drewN ?_ _) | ((with_reducible refine KeepI.alloc ?_ ?_ _); rotate_left; (intro kkI hkI; simp only [Low, Rng, LoR] at hkI; first | omega | (simp <;> omega) | (rcases hkI with hkI | hkI <;> first | omega | (simp <;> omega)))) | ((with_reducible refine KeepI.setCell ?_ ?_ _); rotate_left; (intro hkI; simp only [Low, Rng, LoR] at hkI; first | omega | (simp at hkI <;> omega))) | (refine KeepI.call ?_ (by with_reducible assumption) (by (intro kkI hkI; simp only [Low, Rng, LoR] at hkI; first | omega | (simp <;> omega) | (rcases hkI with hkI | hkI <;> first | omega | (simp <;> omega)))))))) ?_, (by repeat (first | with_reducible exact Below.refl _ _ | with_reducible assumption | (with_reducible refine Below.drew ?_) | (with_reducible refine Below.alloc ?_ ?_ _; rotate_left; (first | omega | (simp <;> omega))) | (with_reducible refine Below.setCell ?_ ?_ _; rotate_left; (first | omega | (simp <;> omega))) | (with_reducible refine below_drewN ?_ _) | (refine Below.trans ?_ (Below.mono (by with_reducible assumption) (by first | omega | (simp <;> omega))))))⟩
      · intro b hb; simp only [Rng] at hb ⊢; simp; omega

theorem refFlushOf (c : List (List TWay)) (ok : CacheOk c) (A : Option Addr) (n B : Nat) (w : World) (hB : B ≤ w.heap.size) (hs : Sl cWay.slice (Low B) w A n c) :
    Calls Try.prog 30 #[.agg #[.slice A c.length n]] w fun e w' => e = .returned (.int .i64 (flushOf c)) ∧ Below w.heap.size w w' := by
  have h4 := ok.h4
  have hw3 := ok.w3
  have h3 : ∀ i, i < c.length → (nth c i).length ≤ 3 := fun i hi => by rw [ok.same i hi]; exact hw3
  have HBD := Lib.hid (flushAt_bd h4 h3)
  have H3 := Lib.hid h3
  clear h3 ok
  go_enter Try.func30, Try.ntmps30
  go_wp2_with fail
  go_loopw [3, 4] (fun nv iv wr => ∃ i : Nat, i ≤ c.length ∧ iv = .int .i64 i ∧ nv = .int .i64 (flushAt c i 0) ∧ wr.heap[w.heap.size]? = some (.cells #[.slice A c.length n] 44) ∧ Below w.heap.size w wr) (fun _ iv _ => c.length - (intOf iv).toNat)
  case atStart => exact ⟨0, Nat.zero_le _, rfl, by rw [flushAt_zero], (by (repeat (first | with_reducible exact heap_set2 (by with_reducible assumption) | with_reducible exact heap_set2 (heapAt _ _ _ rfl) | with_reducible exact heap_set1 (by with_reducible assumption) | with_reducible exact heap_set1 (heapAt _ _ _ rfl) | with_reducible assumption | (with_reducible refine heapAt _ _ _ ?_; first | rfl | (first | omega | (simp <;> omega))) | (with_reducible refine heap_drew ?_) | (with_reducible refine heap_drewN ?_) | (with_reducible refine (heap_alloc_old _ _ ?_).trans ?_; (first | omega | (simp <;> omega))) | (with_reducible refine heap_set_far ?_ ?_; rotate_left; (first | omega | (simp <;> omega)))))), (by repeat (first | with_reducible exact Below.refl _ _ | with_reducible assumption | (with_reducible refine Below.drew ?_) | (with_reducible refine Below.alloc ?_ ?_ _; rotate_left; (first | omega | (simp <;> omega))) | (with_reducible refine Below.setCell ?_ ?_ _; rotate_left; (first | omega | (simp <;> omega))) | (with_reducible refine below_drewN ?_ _) | (refine Below.trans ?_ (Below.mono (by with_reducible assumption) (by first | omega | (simp <;> omega))))))⟩
  case round =>
    obtain ⟨i, hi, rfl, rfl, hp, hbr⟩ := hrel
    obtain ⟨wo, rfl⟩ : ∃ wo : World, wo = wr := ⟨_, rfl⟩
    obtain ⟨cp, fp, zp⟩ := blk hp
    have so := hbr.size
    by_cases hlt : i < c.length
    · obtain ⟨b, o, A1, c1, rfl, hI, hcell, hin⟩ := (hs.next hB hbr).at_slice hlt
      have hl3 := H3.out i hlt
      have hi0 : (0 : Int) ≤ i := by omega
      have hi1 : (i : Int) < c.length := by omega
      have hbl : b < wo.heap.size := Nat.lt_of_lt_of_le hI (Nat.le_trans hB so)
      go_wp2_with fail
      go_loopw [3, 5] (fun nv kv wr => ∃ k : Nat, k ≤ (nth c i).length ∧ kv = .int .i64 k ∧ nv = .int .i64 (flushAt c i k) ∧ wr.heap[w.heap.size]? = some (.cells #[.slice (some ⟨b, o, none⟩) c.length n] 44) ∧ Below wo.heap.size wo wr) (fun _ kv _ => (nth c i).length - (intOf kv).toNat)
      case atStart => exact ⟨0, Nat.zero_le _, rfl, rfl, hp, Below.refl _ _⟩
      case round =>
        obtain ⟨k, hk, rfl, rfl, hp, hbi⟩ := hrel
        obtain ⟨cp, fp, zp⟩ := blk hp
        have si := hbi.size
        have hcellq : wr.cell? ⟨b, o + i, none⟩ = some (.slice A1 (nth c i).length c1) := (hbi.cell (p := ⟨b, o + i, none⟩) hbl).trans hcell
        obtain ⟨d1, d2⟩ := HBD.out i k (by omega) (.inl hlt)
        by_cases hkt : k < (nth c i).length
        · obtain ⟨b', o', rfl, hI', hc0, hc1⟩ := (hin.next (Nat.le_trans hB so) hbi).at_way hkt
          have hst := Lib.hid (flushAt_step hkt)
          have hk0 : (0 : Int) ≤ k := by omega
          have hk1 : (k : Int) < (nth c i).length := by omega
          cases hd : (nth (nth c i) k).dirty
          all_goals
            rw [hd] at hc1
            have E := Lib.hid hd
            clear hd
            go_wp2_with fail
            go_roundw
            case rel => exact ⟨k + 1, by omega, by go_num, by rw [hst.out, E.out]; rfl, (by (repeat (first | with_reducible exact heap_set2 (by with_reducible assumption) | with_reducible exact heap_set2 (heapAt _ _ _ rfl) | with_reducible exact heap_set1 (by with_reducible assumption) | with_reducible exact heap_set1 (heapAt _ _ _ rfl) | with_reducible assumption | (with_reducible refine heapAt _ _ _ ?_; first | rfl | (first | omega | (simp <;> omega))) | (with_reducible refine heap_drew ?_) | (with_reducible refine heap_drewN ?_) | (with_reducible refine (heap_alloc_old _ _ ?_).trans ?_; (first | omega | (simp <;> omega))) | (with_reducible refine heap_set_far ?_ ?_; rotate_left; (first | omega | (simp <;> omega)))))), hbi⟩
            case measure => simp [intOf]; omega
        · obtain rfl : k = (nth c i).length := by omega
          have hst := Lib.hid (flushAt_set hlt)
          go_wp2_with fail
          go_roundw
          case rel => exact ⟨i + 1, by omega, by go_num, by rw [hst.out], hp, hbr.trans (hbi.mono so)⟩
          case measure => simp [intOf]; omega
    · obtain rfl : i = c.length := by omega
      have HF := Lib.hid (flushAt_end c)
      go_wp2_with fail
      go_ret
      exact ⟨ret_int HF.out, hbr⟩
end Go.Proofs.Ytinlmkhlgclbfaa
