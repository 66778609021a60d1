/-
  DecR: contract of the reference's DecodeOf.
-/
import Derived.Test.YtinlmkhlgclbfaaDecL
import Derived.Test.YtinlmkhlgclbfaaDecM
import Derived.Test.YtinlmkhlgclbfaaDecN
import Derived.Test.YtinlmkhlgclbfaaDecO
import Derived.Deep.RegionLaw
import Derived.StillTailTactics
namespace Go.Proofs.Ytinlmkhlgclbfaa
open Go.RowKit
set_option maxRecDepth 100000
set_option maxHeartbeats 1000000

set_option maxHeartbeats 16000000 in
theorem refDecodeOf (s : ByteArray) (w : World) (hs : s.size ≤ 9223372036854775807) :
    Calls Try.prog 46 #[.string s] w (RetDec (decRes (bytesOf s)) (decPlace (bytesOf s)) (decErr (bytesOf s)) w) := by
  have hlen := bytesOf_length s
  by_cases hm : 200 < s.size
  · have R1 := Lib.hid (show decErr (bytesOf s) = 2 by unfold decErr; rw [if_pos (by omega)])
    have R2 := Lib.hid (show decPlace (bytesOf s) = 0 by unfold decPlace; rw [if_pos (by omega)])
    have R3 := Lib.hid (show decRes (bytesOf s) = noCfg by unfold decRes; rw [R1.out]; rfl)
    have hd : decide (200 < s.size) = true := by simpa using hm
    have hd2 : decide (200 < (s.size : Int)) = true := by simp; omega
    clear hm hlen
    go_enter Try.func46, Try.ntmps46
    go_wp2_with fail
    refine bodyPost_ret (v := .tuple #[.agg #[.int .i64 0, .int .i64 0, .int .i64 0, .int .i64 0, .int .i64 0, .slice none 0 0, .slice none 0 0, .slice none 0 0, .slice none 0 0], .int .i64 0, .int .i64 2]) (by simp [results, Try.results46, go_sem, *]) rfl ?_
    rw [R1.out, R2.out, R3.out]
    exact ⟨⟨none, 0, none, 0, none, 0, none, 0⟩, rfl, noCfg_at _ _, (by repeat (first | with_reducible exact Below.refl _ _ | with_reducible assumption | (with_reducible refine Below.drew ?_) | (with_reducible refine Below.alloc ?_ ?_ _; rotate_left; (first | omega | (simp <;> omega))) | (with_reducible refine Below.setCell ?_ ?_ _; rotate_left; (first | omega | (simp <;> omega))) | (with_reducible refine below_drewN ?_ _) | (refine Below.trans ?_ (Below.mono (by with_reducible assumption) (by first | omega | (simp <;> omega))))))⟩
  have hd : decide (200 < s.size) = false := by simpa using hm
  have hd2 : decide (200 < (s.size : Int)) = false := by simp; omega
  have RF := Lib.hid (fun (n : Nat) (h : decFault (bytesOf s) = n) => show decErr (bytesOf s) = 1 ∧ decPlace (bytesOf s) = n ∧ decRes (bytesOf s) = noCfg by
    have h1 : decErr (bytesOf s) = 1 := by unfold decErr; rw [if_neg (by omega), if_pos (by omega)]
    refine ⟨h1, ?_, ?_⟩
    · unfold decPlace; rw [if_neg (by omega), if_pos (by omega), h]
    · unfold decRes; rw [h1]; rfl)
  have RG := Lib.hid (fun (h : decFault (bytesOf s) = -1) => show decErr (bytesOf s) = checkConfig (decCfg (bytesOf s)) ∧ decPlace (bytesOf s) = 0 ∧ decRes (bytesOf s) = if checkConfig (decCfg (bytesOf s)) = 0 then decCfg (bytesOf s) else noCfg by
    have h1 : decErr (bytesOf s) = checkConfig (decCfg (bytesOf s)) := by unfold decErr; rw [if_neg (by omega), if_neg (by omega)]
    refine ⟨h1, ?_, ?_⟩
    · unfold decPlace; rw [if_neg (by omega), if_neg (by omega)]
    · unfold decRes; rw [h1])
  have hs2 : s.size ≤ 200 := by omega
  have HL := Lib.hid hlen
  have HQ := Lib.hid (fun (p : Nat) (hp : p < s.size) (W : World) => show (Instr.index 9 (.string s) (.int .i64 (p : Int))).run Try.prog W = .ok (.int .u8 (nth (bytesOf s) p)) W by
    rw [run_index_string W 9 s .i64 p Try.underlying9, dif_pos ⟨by omega, by omega⟩, bytesOf_nth hp]; rfl)
  have HW := Lib.hid (fun (p : Nat) (hp : p < s.size) => show nth (bytesOf s) p = (cntAt (bytesOf s) p : Nat) ∧ wrap64 (nth (bytesOf s) p) = nth (bytesOf s) p ∧ cntAt (bytesOf s) p ≤ 255 by
    have hbd := bytesOf_bd hp
    exact ⟨by unfold cntAt; omega, IntWalk.wrap64_in _ (by omega), by unfold cntAt; omega⟩)
  clear hm hlen
  generalize hE : decErr (bytesOf s) = DE at *
  generalize hP : decPlace (bytesOf s) = DP at *
  generalize hR : decRes (bytesOf s) = DR at *
  clear hE hP hR
  by_cases hh : 0 < s.size ∧ nth (bytesOf s) 0 ≠ 67
  · obtain ⟨hz, hh⟩ := hh
    obtain ⟨e1, e2, e3⟩ := RF.out 0 (by unfold decFault; rw [if_pos ⟨by rw [HL.out]; exact hz, hh⟩]; rfl)
    subst e1; subst e2; subst e3
    have hne : (((s[0]'hz).toNat : Int) != 67) = true := by rw [bytesOf_nth hz] at hh; simpa using hh
    have hz1 : decide (0 < s.size) = true := by simpa using hz
    have hz2 : decide (0 < (s.size : Int)) = true := by simpa using hz
    clear RF RG HL
    go_enter Try.func46, Try.ntmps46
    go_wp2_with fail
    refine bodyPost_ret (v := .tuple #[.agg #[.int .i64 0, .int .i64 0, .int .i64 0, .int .i64 0, .int .i64 0, .slice none 0 0, .slice none 0 0, .slice none 0 0, .slice none 0 0], .int .i64 0, .int .i64 1]) (by simp [results, Try.results46, go_sem, *]) rfl ?_
    exact ⟨⟨none, 0, none, 0, none, 0, none, 0⟩, rfl, noCfg_at _ _, (by repeat (first | with_reducible exact Below.refl _ _ | with_reducible assumption | (with_reducible refine Below.drew ?_) | (with_reducible refine Below.alloc ?_ ?_ _; rotate_left; (first | omega | (simp <;> omega))) | (with_reducible refine Below.setCell ?_ ?_ _; rotate_left; (first | omega | (simp <;> omega))) | (with_reducible refine below_drewN ?_ _) | (refine Below.trans ?_ (Below.mono (by with_reducible assumption) (by first | omega | (simp <;> omega))))))⟩
  have hP0 : Hid (Passed (bytesOf s) 0) := Lib.hid ⟨fun a => Decidable.byContradiction fun e => hh ⟨by rw [HL.out] at a; exact a, e⟩, fun j hj => by omega⟩
  have H0 : Hid (∀ hz : 0 < s.size, (((s[0]'hz).toNat : Int) != 67) = false) := Lib.hid (fun hz => by
    have : nth (bytesOf s) 0 = 67 := Decidable.byContradiction fun e => hh ⟨hz, e⟩
    rw [bytesOf_nth hz] at this
    simp [this])
  clear hh
  go_enter Try.func46, Try.ntmps46
  go_upto_region 3 with (fail)
  go_cut [32] (fun v wx => v = .bool false ∧ wx.heap[w.heap.size]? = some (.cells #[.string s] 9) ∧ wx.heap[w.heap.size + 1]? = some (.cells #[.int .i64 0, .int .i64 0, .int .i64 0, .int .i64 0, .int .i64 0, .slice none 0 0, .slice none 0 0, .slice none 0 0, .slice none 0 0] 63) ∧ wx.heap.size = w.heap.size + 2 ∧ Below w.heap.size w wx)
  case first =>
    by_cases hz : 0 < s.size
    · have h0 := H0.out hz
      have hz1 : decide (0 < s.size) = true := by simpa using hz
      have hz2 : decide (0 < (s.size : Int)) = true := by simpa using hz
      go_wp2_with fail
      go_meet
      exact ⟨rfl, (by (repeat (first | with_reducible exact heap_set2 (by with_reducible assumption) | with_reducible exact heap_set2 (heapAt _ _ _ rfl) | with_reducible exact heap_set1 (by with_reducible assumption) | with_reducible exact heap_set1 (heapAt _ _ _ rfl) | with_reducible assumption | (with_reducible refine heapAt _ _ _ ?_; first | rfl | (first | omega | (simp <;> omega))) | (with_reducible refine heap_drew ?_) | (with_reducible refine heap_drewN ?_) | (with_reducible refine (heap_alloc_old _ _ ?_).trans ?_; (first | omega | (simp <;> omega))) | (with_reducible refine heap_set_far ?_ ?_; rotate_left; (first | omega | (simp <;> omega)))))), (by (repeat (first | with_reducible exact heap_set2 (by with_reducible assumption) | with_reducible exact heap_set2 (heapAt _ _ _ rfl) | with_reducible exact heap_set1 (by with_reducible assumption) | with_reducible exact heap_set1 (heapAt _ _ _ rfl) | with_reducible assumption | (with_reducible refine heapAt _ _ _ ?_; first | rfl | (first | omega | (simp <;> omega))) | (with_reducible refine heap_drew ?_) | (with_reducible refine heap_drewN ?_) | (with_reducible refine (heap_alloc_old _ _ ?_).trans ?_; (first | omega | (simp <;> omega))) | (with_reducible refine heap_set_far ?_ ?_; rotate_left; (first | omega | (simp <;> omega)))))), by simp, (by repeat (first | with_reducible exact Below.refl _ _ | with_reducible assumption | (with_reducible refine Below.drew ?_) | (with_reducible refine Below.alloc ?_ ?_ _; rotate_left; (first | omega | (simp <;> omega))) | (with_reducible refine Below.setCell ?_ ?_ _; rotate_left; (first | omega | (simp <;> omega))) | (with_reducible refine below_drewN ?_ _) | (refine Below.trans ?_ (Below.mono (by with_reducible assumption) (by first | omega | (simp <;> omega))))))⟩
    · have hz1 : decide (0 < s.size) = false := decide_eq_false (by omega)
      have hz2 : decide (0 < (s.size : Int)) = false := decide_eq_false (by omega)
      go_wp2_with fail
      go_meet
      exact ⟨rfl, (by (repeat (first | with_reducible exact heap_set2 (by with_reducible assumption) | with_reducible exact heap_set2 (heapAt _ _ _ rfl) | with_reducible exact heap_set1 (by with_reducible assumption) | with_reducible exact heap_set1 (heapAt _ _ _ rfl) | with_reducible assumption | (with_reducible refine heapAt _ _ _ ?_; first | rfl | (first | omega | (simp <;> omega))) | (with_reducible refine heap_drew ?_) | (with_reducible refine heap_drewN ?_) | (with_reducible refine (heap_alloc_old _ _ ?_).trans ?_; (first | omega | (simp <;> omega))) | (with_reducible refine heap_set_far ?_ ?_; rotate_left; (first | omega | (simp <;> omega)))))), (by (repeat (first | with_reducible exact heap_set2 (by with_reducible assumption) | with_reducible exact heap_set2 (heapAt _ _ _ rfl) | with_reducible exact heap_set1 (by with_reducible assumption) | with_reducible exact heap_set1 (heapAt _ _ _ rfl) | with_reducible assumption | (with_reducible refine heapAt _ _ _ ?_; first | rfl | (first | omega | (simp <;> omega))) | (with_reducible refine heap_drew ?_) | (with_reducible refine heap_drewN ?_) | (with_reducible refine (heap_alloc_old _ _ ?_).trans ?_; (first | omega | (simp <;> omega))) | (with_reducible refine heap_set_far ?_ ?_; rotate_left; (first | omega | (simp <;> omega)))))), by simp, (by repeat (first | with_reducible exact Below.refl _ _ | with_reducible assumption | (with_reducible refine Below.drew ?_) | (with_reducible refine Below.alloc ?_ ?_ _; rotate_left; (first | omega | (simp <;> omega))) | (with_reducible refine Below.setCell ?_ ?_ _; rotate_left; (first | omega | (simp <;> omega))) | (with_reducible refine below_drewN ?_ _) | (refine Below.trans ?_ (Below.mono (by with_reducible assumption) (by first | omega | (simp <;> omega))))))⟩
  case rest =>
    obtain ⟨rfl, hsg, hcg, hsz, hb⟩ := hcut
    obtain ⟨wa, rfl⟩ : ∃ wx : World, wx = wc := ⟨_, rfl⟩
    obtain ⟨csg, fsg, zsg⟩ := blk hsg
    obtain ⟨ccg, fcg, zcg⟩ := blk hcg
    clear H0
    replace hsz := Lib.hid hsz
    go_wp2_with fail
    have hz3 := hb.size
    go_loopw [7, 8, 9] (fun av cv kv wr => ∃ (k : Nat) (A1 : Option Addr) (c1 : Nat), k ≤ 4 ∧ kv = .int .i64 k ∧ av = .int .i64 (posn (bytesOf s) k : Nat) ∧ cv = .slice A1 k c1 ∧ Hid (Passed (bytesOf s) k) ∧ wr.ownsRow (wa.heap.size + 2) 3 1 (.slice A1 k c1) k (i64s ((List.range k).map fun j => (posn (bytesOf s) j : Int))) ∧
      wr.heap[w.heap.size]? = some (.cells #[.string s] 9) ∧ wr.heap[w.heap.size + 1]? = some (.cells #[.int .i64 0, .int .i64 0, .int .i64 0, .int .i64 0, .int .i64 0, .slice none 0 0, .slice none 0 0, .slice none 0 0, .slice none 0 0] 63) ∧ wr.heap[wa.heap.size]? = some (.cells #[.int .i64 3, .int .i64 1, .int .i64 3, .int .i64 7] 3) ∧ wr.heap[wa.heap.size + 1]? = some (.cells #[.int .i64 6, .int .i64 4, .int .i64 4, .int .i64 6] 3) ∧ Below w.heap.size w wr) (fun _ _ kv _ => 4 - (intOf kv).toNat)
    case atStart => exact ⟨0, none, 0, by omega, rfl, rfl, rfl, hP0, ⟨by simp [i64s], .inl ⟨rfl, rfl⟩⟩, (by (repeat (first | with_reducible exact heap_set2 (by with_reducible assumption) | with_reducible exact heap_set2 (heapAt _ _ _ rfl) | with_reducible exact heap_set1 (by with_reducible assumption) | with_reducible exact heap_set1 (heapAt _ _ _ rfl) | with_reducible assumption | (with_reducible refine heapAt _ _ _ ?_; first | rfl | (first | omega | (simp <;> omega))) | (with_reducible refine heap_drew ?_) | (with_reducible refine heap_drewN ?_) | (with_reducible refine (heap_alloc_old _ _ ?_).trans ?_; (first | omega | (simp <;> omega))) | (with_reducible refine heap_set_far ?_ ?_; rotate_left; (first | omega | (simp <;> omega)))))), (by (repeat (first | with_reducible exact heap_set2 (by with_reducible assumption) | with_reducible exact heap_set2 (heapAt _ _ _ rfl) | with_reducible exact heap_set1 (by with_reducible assumption) | with_reducible exact heap_set1 (heapAt _ _ _ rfl) | with_reducible assumption | (with_reducible refine heapAt _ _ _ ?_; first | rfl | (first | omega | (simp <;> omega))) | (with_reducible refine heap_drew ?_) | (with_reducible refine heap_drewN ?_) | (with_reducible refine (heap_alloc_old _ _ ?_).trans ?_; (first | omega | (simp <;> omega))) | (with_reducible refine heap_set_far ?_ ?_; rotate_left; (first | omega | (simp <;> omega)))))), (by (repeat (first | with_reducible exact heap_set2 (by with_reducible assumption) | with_reducible exact heap_set2 (heapAt _ _ _ rfl) | with_reducible exact heap_set1 (by with_reducible assumption) | with_reducible exact heap_set1 (heapAt _ _ _ rfl) | with_reducible assumption | (with_reducible refine heapAt _ _ _ ?_; first | rfl | (first | omega | (simp <;> omega))) | (with_reducible refine heap_drew ?_) | (with_reducible refine heap_drewN ?_) | (with_reducible refine (heap_alloc_old _ _ ?_).trans ?_; (first | omega | (simp <;> omega))) | (with_reducible refine heap_set_far ?_ ?_; rotate_left; (first | omega | (simp <;> omega)))))), (by (repeat (first | with_reducible exact heap_set2 (by with_reducible assumption) | with_reducible exact heap_set2 (heapAt _ _ _ rfl) | with_reducible exact heap_set1 (by with_reducible assumption) | with_reducible exact heap_set1 (heapAt _ _ _ rfl) | with_reducible assumption | (with_reducible refine heapAt _ _ _ ?_; first | rfl | (first | omega | (simp <;> omega))) | (with_reducible refine heap_drew ?_) | (with_reducible refine heap_drewN ?_) | (with_reducible refine (heap_alloc_old _ _ ?_).trans ?_; (first | omega | (simp <;> omega))) | (with_reducible refine heap_set_far ?_ ?_; rotate_left; (first | omega | (simp <;> omega)))))), (by repeat (first | with_reducible exact Below.refl _ _ | with_reducible assumption | (with_reducible refine Below.drew ?_) | (with_reducible refine Below.alloc ?_ ?_ _; rotate_left; (first | omega | (simp <;> omega))) | (with_reducible refine Below.setCell ?_ ?_ _; rotate_left; (first | omega | (simp <;> omega))) | (with_reducible refine below_drewN ?_ _) | (refine Below.trans ?_ (Below.mono (by with_reducible assumption) (by first | omega | (simp <;> omega))))))⟩
    case round =>
      obtain ⟨k, A1, c1, hk, rfl, rfl, rfl, hps, hown, hsg, hcg, hz, hm, hbr⟩ := hrel
      clear csg fsg zsg ccg fcg
      obtain ⟨csg, fsg, zsg⟩ := blk hsg
      obtain ⟨ccg, fcg, zcg2⟩ := blk hcg
      have hpl := posn_le hk hps.out
      by_cases hk4 : k < 4
      · have hk0 : (0 : Int) ≤ k := by omega
        have hk1 : (k : Int) < 4 := by omega
        have hzk : wr.cell? ⟨wa.heap.size, k, none⟩ = some (.int .i64 (sizeN k : Nat)) := ((blk hz).1 k).trans (by rcases k with _ | _ | _ | _ | k <;> first | rfl | omega)
        have hmk : wr.cell? ⟨wa.heap.size + 1, k, none⟩ = some (.int .i64 (mostN k : Nat)) := ((blk hm).1 k).trans (by rcases k with _ | _ | _ | _ | k <;> first | rfl | omega)
        have hzl := sizeN_le k
        have hml := mostN_le k
        have hb0 := hbr.size
        have hzb := (blk hz).2.2
        have hmb := (blk hm).2.2
        by_cases h1 : s.size ≤ posn (bytesOf s) k
        · obtain ⟨e1, e2, e3⟩ := RF.out s.size (by rw [← HL.out]; exact passed_short hk4 hps.out (by rw [HL.out]; exact h1))
          subst e1; subst e2; subst e3
          generalize posn (bytesOf s) k = P at *
          have h2 : decide (s.size ≤ P) = true := decide_eq_true h1
          have h3 : decide ((s.size : Int) ≤ (P : Int)) = true := decide_eq_true (by omega)
          clear RF RG HL HQ HW hps h1
          go_wp2_with fail
          go_region
          all_goals
            go_wp2_with fail
            refine bodyPost_ret (v := .tuple #[.agg #[.int .i64 0, .int .i64 0, .int .i64 0, .int .i64 0, .int .i64 0, .slice none 0 0, .slice none 0 0, .slice none 0 0, .slice none 0 0], .int .i64 s.size, .int .i64 1]) (by simp [results, Try.results46, go_sem, cfg_set_cells (heap_drewN hcg), cfg_set_cells hcg]) rfl ?_
            exact ⟨⟨none, 0, none, 0, none, 0, none, 0⟩, rfl, noCfg_at _ _, (by repeat (first | with_reducible exact Below.refl _ _ | with_reducible assumption | (with_reducible refine Below.drew ?_) | (with_reducible refine Below.alloc ?_ ?_ _; rotate_left; (first | omega | (simp <;> omega))) | (with_reducible refine Below.setCell ?_ ?_ _; rotate_left; (first | omega | (simp <;> omega))) | (with_reducible refine below_drewN ?_ _) | (refine Below.trans ?_ (Below.mono (by with_reducible assumption) (by first | omega | (simp <;> omega))))))⟩
        · obtain ⟨hn, hw, hn2⟩ := HW.out (posn (bytesOf s) k) (by omega)
          have hq := HQ.out (posn (bytesOf s) k) (by omega)
          have h2 : decide (s.size ≤ posn (bytesOf s) k) = false := decide_eq_false h1
          have h3 : decide ((s.size : Int) ≤ (posn (bytesOf s) k : Int)) = false := decide_eq_false (by omega)
          have RM := Lib.hid (fun h => RF.out (posn (bytesOf s) k) (passed_most hk4 hps.out (by rw [HL.out]; omega) h))
          have RS := Lib.hid (fun h => hps.out.step (by rw [HL.out]; omega) h)
          have RE := Lib.hid (show posn (bytesOf s) (k + 1) = posn (bytesOf s) k + 1 + sizeN k * cntAt (bytesOf s) (posn (bytesOf s) k) from rfl)
          have RR := Lib.hid (show i64s ((List.range (k + 1)).map fun j => (posn (bytesOf s) j : Int)) = i64s ((List.range k).map fun j => (posn (bytesOf s) j : Int)) ++ [.int .i64 (posn (bytesOf s) k : Nat)] by
            rw [List.range_succ, List.map_append, i64s_append]; rfl)
          generalize hrow : (List.range k).map (fun j => (posn (bytesOf s) j : Int)) = R0 at *
          rw [hn] at hw hq
          generalize cntAt (bytesOf s) (posn (bytesOf s) k) = N at *
          generalize posn (bytesOf s) k = P at *
          clear hn hrow
          by_cases h4 : mostN k < N
          · obtain ⟨e1, e2, e3⟩ := RM.out h4
            subst e1; subst e2; subst e3
            have h5 : decide (mostN k < N) = true := decide_eq_true h4
            have h6 : decide ((mostN k : Int) < (N : Int)) = true := decide_eq_true (by omega)
            clear RF RG HL HQ HW hps h1 RM RS RE RR
            go_wp2_with fail
            go_quiet (fail)
            go_wp2_with fail
            refine bodyPost_ret (v := .tuple #[.agg #[.int .i64 0, .int .i64 0, .int .i64 0, .int .i64 0, .int .i64 0, .slice none 0 0, .slice none 0 0, .slice none 0 0, .slice none 0 0], .int .i64 P, .int .i64 1]) (by simp [results, Try.results46, go_sem, cfg_set_cells (heap_drewN hcg)]) rfl ?_
            exact ⟨⟨none, 0, none, 0, none, 0, none, 0⟩, rfl, noCfg_at _ _, (by repeat (first | with_reducible exact Below.refl _ _ | with_reducible assumption | (with_reducible refine Below.drew ?_) | (with_reducible refine Below.alloc ?_ ?_ _; rotate_left; (first | omega | (simp <;> omega))) | (with_reducible refine Below.setCell ?_ ?_ _; rotate_left; (first | omega | (simp <;> omega))) | (with_reducible refine below_drewN ?_ _) | (refine Below.trans ?_ (Below.mono (by with_reducible assumption) (by first | omega | (simp <;> omega))))))⟩
          · have h5 : decide (mostN k < N) = false := decide_eq_false h4
            have h6 : decide ((mostN k : Int) < (N : Int)) = false := decide_eq_false (by omega)
            have hN := Nat.mul_le_mul hzl (show N ≤ 6 by omega)
            obtain ⟨M, hM⟩ : ∃ M : Nat, M = sizeN k * N := ⟨_, rfl⟩
            have hM1 : (sizeN k : Int) * (N : Int) = (M : Int) := by rw [hM]; push_cast; rfl
            rw [← hM] at hN RE
            clear hM
            obtain ⟨M1, hM1'⟩ : ∃ q : Nat, q = 1 + M := ⟨_, rfl⟩
            have sM1 : (1 : Int) + (M : Int) = (M1 : Int) := by omega
            obtain ⟨P1, hP1⟩ : ∃ q : Nat, q = P + M1 := ⟨_, rfl⟩
            have sP1 : (P : Int) + (M1 : Int) = (P1 : Int) := by omega
            have wM : IntKind.i64.wrap (M : Int) = (M : Int) := IntWalk.i64_in _ (by omega)
            have wM1 : IntKind.i64.wrap (M1 : Int) = (M1 : Int) := IntWalk.i64_in _ (by omega)
            have wP1 : IntKind.i64.wrap (P1 : Int) = (P1 : Int) := IntWalk.i64_in _ (by omega)
            have RE := Lib.hid (show posn (bytesOf s) (k + 1) = P1 by rw [RE.out]; omega)
            have n1 : (Value.slice A1 k c1).ownBlock ≠ some w.heap.size := fun e => by have := (own_lt hown _ e).1; omega
            have n2 : (Value.slice A1 k c1).ownBlock ≠ some (w.heap.size + 1) := fun e => by have := (own_lt hown _ e).1; omega
            have n3 : (Value.slice A1 k c1).ownBlock ≠ some wa.heap.size := fun e => by have := (own_lt hown _ e).1; omega
            have n4 : (Value.slice A1 k c1).ownBlock ≠ some (wa.heap.size + 1) := fun e => by have := (own_lt hown _ e).1; omega
            have hs200 := hs2
            have wMM : IntKind.i64.wrap ((sizeN k : Int) * (N : Int)) = (M : Int) := by rw [hM1]; exact wM
            have hM3 : ((sizeN k * N : Nat) : Int) = (M : Int) := by rw [← hM1]; push_cast; rfl
            clear hM1' hP1 hN hps hpl h1 hs2 RM
            go_wp2_with fail
            go_quiet (fail)
            go_wp2_with ((at_builtin; refine wpList_app ?_ (.tmp 58) (.tmp 60) _ ?_ (wa.heap.size + 2) tyInt (.slice A1 k c1) k (i64s R0) ?_ ?_ (some ⟨wr.heap.size, 0, none⟩) 1 1 [.int .i64 (P : Int)] ?_ ?_ (one_one rfl) ?_ ?_ ?_ ?_; rfl; rfl; rfl; exact (by repeat (first | with_reducible exact hown | (with_reducible refine World.ownsRow.alloc ?_ _) | (with_reducible refine own_drew ?_) | (with_reducible refine own_drewN ?_ _))); rfl; exact (by first | exact src_new (by simp) rfl | exact src_new_drew (by simp) rfl); (first | (unfold maxLen; omega) | (simp only [maxLen]; omega)); (omega); (first | exact Nat.le_refl _ | exact Below.size (by assumption) | omega | (simp <;> omega)); intro A3 c3 w3 hown3 hg_w3 hat_w3; refine have_then (P := w3.heap[w.heap.size]? = some (.cells #[.string s] 9)) ?_ (fun p_w3 => ?_); (focus (refine (hg_w3.block _ ?_ ?_).trans ?_; (first | omega | (simp <;> omega)); (first | exact Ne.symm (by assumption) | omega); (repeat (first | with_reducible exact heap_set2 (by with_reducible assumption) | with_reducible exact heap_set2 (heapAt _ _ _ rfl) | with_reducible exact heap_set1 (by with_reducible assumption) | with_reducible exact heap_set1 (heapAt _ _ _ rfl) | with_reducible assumption | (with_reducible refine heapAt _ _ _ ?_; first | rfl | (first | omega | (simp <;> omega))) | (with_reducible refine heap_drew ?_) | (with_reducible refine heap_drewN ?_) | (with_reducible refine (heap_alloc_old _ _ ?_).trans ?_; (first | omega | (simp <;> omega))) | (with_reducible refine heap_set_far ?_ ?_; rotate_left; (first | omega | (simp <;> omega))))); done)); obtain ⟨cp_w3, fp_w3, zp_w3⟩ := blk p_w3; refine have_then (P := w3.heap[w.heap.size + 1]? = some (.cells #[.int .i64 0, .int .i64 0, .int .i64 0, .int .i64 0, .int .i64 0, .slice none 0 0, .slice none 0 0, .slice none 0 0, .slice none 0 0] 63)) ?_ (fun q_w3 => ?_); (focus (refine (hg_w3.block _ ?_ ?_).trans ?_; (first | omega | (simp <;> omega)); (first | exact Ne.symm (by assumption) | omega); (repeat (first | with_reducible exact heap_set2 (by with_reducible assumption) | with_reducible exact heap_set2 (heapAt _ _ _ rfl) | with_reducible exact heap_set1 (by with_reducible assumption) | with_reducible exact heap_set1 (heapAt _ _ _ rfl) | with_reducible assumption | (with_reducible refine heapAt _ _ _ ?_; first | rfl | (first | omega | (simp <;> omega))) | (with_reducible refine heap_drew ?_) | (with_reducible refine heap_drewN ?_) | (with_reducible refine (heap_alloc_old _ _ ?_).trans ?_; (first | omega | (simp <;> omega))) | (with_reducible refine heap_set_far ?_ ?_; rotate_left; (first | omega | (simp <;> omega))))); done)); obtain ⟨cq_w3, fq_w3, zq_w3⟩ := blk q_w3; refine have_then (P := w3.heap[wa.heap.size]? = some (.cells #[.int .i64 3, .int .i64 1, .int .i64 3, .int .i64 7] 3)) ?_ (fun z_w3 => ?_); (focus (refine (hg_w3.block _ ?_ ?_).trans ?_; (first | omega | (simp <;> omega)); (first | exact Ne.symm (by assumption) | omega); (repeat (first | with_reducible exact heap_set2 (by with_reducible assumption) | with_reducible exact heap_set2 (heapAt _ _ _ rfl) | with_reducible exact heap_set1 (by with_reducible assumption) | with_reducible exact heap_set1 (heapAt _ _ _ rfl) | with_reducible assumption | (with_reducible refine heapAt _ _ _ ?_; first | rfl | (first | omega | (simp <;> omega))) | (with_reducible refine heap_drew ?_) | (with_reducible refine heap_drewN ?_) | (with_reducible refine (heap_alloc_old _ _ ?_).trans ?_; (first | omega | (simp <;> omega))) | (with_reducible refine heap_set_far ?_ ?_; rotate_left; (first | omega | (simp <;> omega))))); done)); obtain ⟨cz_w3, fz_w3, zz_w3⟩ := blk z_w3; refine have_then (P := w3.heap[wa.heap.size + 1]? = some (.cells #[.int .i64 6, .int .i64 4, .int .i64 4, .int .i64 6] 3)) ?_ (fun m_w3 => ?_); (focus (refine (hg_w3.block _ ?_ ?_).trans ?_; (first | omega | (simp <;> omega)); (first | exact Ne.symm (by assumption) | omega); (repeat (first | with_reducible exact heap_set2 (by with_reducible assumption) | with_reducible exact heap_set2 (heapAt _ _ _ rfl) | with_reducible exact heap_set1 (by with_reducible assumption) | with_reducible exact heap_set1 (heapAt _ _ _ rfl) | with_reducible assumption | (with_reducible refine heapAt _ _ _ ?_; first | rfl | (first | omega | (simp <;> omega))) | (with_reducible refine heap_drew ?_) | (with_reducible refine heap_drewN ?_) | (with_reducible refine (heap_alloc_old _ _ ?_).trans ?_; (first | omega | (simp <;> omega))) | (with_reducible refine heap_set_far ?_ ?_; rotate_left; (first | omega | (simp <;> omega))))); done)); obtain ⟨cm_w3, fm_w3, zm_w3⟩ := blk m_w3))
            have z3 := hg_w3.size
            simp at z3
            have q3 : Below w.heap.size w w3 := Below.grown (w := _) (by (repeat (first | with_reducible exact Below.refl _ _ | with_reducible assumption | (with_reducible refine Below.drew ?_) | (with_reducible refine Below.alloc ?_ ?_ _; rotate_left; (first | omega | (simp <;> omega))) | (with_reducible refine Below.setCell ?_ ?_ _; rotate_left; (first | omega | (simp <;> omega))) | (with_reducible refine below_drewN ?_ _) | (refine Below.trans ?_ (Below.mono (by with_reducible assumption) (by first | omega | (simp <;> omega))))))) hg_w3 (by simp; omega) (fun k hk => by have := (own_lt hown _ hk).1; omega)
            have hzk3 : w3.cell? ⟨wa.heap.size, k, none⟩ = some (.int .i64 (sizeN k : Nat)) := (cz_w3 k).trans (by rcases k with _ | _ | _ | _ | k <;> first | rfl | omega)
            clear cz_w3 cm_w3
            go_quiet (fail)
            go_wp2_with fail
            go_roundw
            case rel =>
              refine ⟨k + 1, A3, c3, by omega, by go_num, by rw [RE.out], rfl, Lib.hid (RS.out (Nat.le_of_not_lt h4)), ?_, p_w3, q_w3, z_w3, m_w3, below_drewN q3 _⟩
              rw [RR.out]
              exact hown3
            case measure => simp [intOf]; omega
      · obtain rfl : k = 4 := by omega
        have hpe := passed_end hps.out
        rw [HL.out] at hpe
        obtain ⟨hp0, hps⟩ := hps.out
        have a0 := hps 0 (by omega)
        have a1 := hps 1 (by omega)
        have a2 := hps 2 (by omega)
        have a3 := hps 3 (by omega)
        rw [HL.out] at a0 a1 a2 a3
        have g1 : posn (bytesOf s) 1 = 6 + 1 + 3 * cntAt (bytesOf s) 6 := rfl
        have g2 : posn (bytesOf s) 2 = posn (bytesOf s) 1 + 1 + 1 * cntAt (bytesOf s) (posn (bytesOf s) 1) := rfl
        have g3 : posn (bytesOf s) 3 = posn (bytesOf s) 2 + 1 + 3 * cntAt (bytesOf s) (posn (bytesOf s) 2) := rfl
        have g4 : posn (bytesOf s) 4 = posn (bytesOf s) 3 + 1 + 7 * cntAt (bytesOf s) (posn (bytesOf s) 3) := rfl
        change 6 < s.size ∧ cntAt (bytesOf s) 6 ≤ 6 at a0
        change _ ∧ _ ≤ 4 at a1
        change _ ∧ _ ≤ 4 at a2
        change _ ∧ _ ≤ 6 at a3
        rcases Nat.lt_trichotomy s.size (posn (bytesOf s) 4) with h4 | h4 | h4
        · rw [if_pos h4] at hpe
          obtain ⟨e1, e2, e3⟩ := RF.out s.size hpe
          subst e1; subst e2; subst e3
          generalize posn (bytesOf s) 4 = P at *
          have h2 : decide (s.size < P) = true := decide_eq_true h4
          have h3 : decide ((s.size : Int) < (P : Int)) = true := decide_eq_true (by omega)
          clear RF RG HL HQ HW hps hpe a0 a1 a2 a3 g1 g2 g3 g4 hp0
          go_wp2_with fail
          go_region
          all_goals
            go_wp2_with fail
            refine bodyPost_ret (v := .tuple #[.agg #[.int .i64 0, .int .i64 0, .int .i64 0, .int .i64 0, .int .i64 0, .slice none 0 0, .slice none 0 0, .slice none 0 0, .slice none 0 0], .int .i64 s.size, .int .i64 1]) (by simp [results, Try.results46, go_sem, cfg_set_cells (heap_drewN hcg), cfg_set_cells hcg]) rfl ?_
            exact ⟨⟨none, 0, none, 0, none, 0, none, 0⟩, rfl, noCfg_at _ _, (by repeat (first | with_reducible exact Below.refl _ _ | with_reducible assumption | (with_reducible refine Below.drew ?_) | (with_reducible refine Below.alloc ?_ ?_ _; rotate_left; (first | omega | (simp <;> omega))) | (with_reducible refine Below.setCell ?_ ?_ _; rotate_left; (first | omega | (simp <;> omega))) | (with_reducible refine below_drewN ?_ _) | (refine Below.trans ?_ (Below.mono (by with_reducible assumption) (by first | omega | (simp <;> omega))))))⟩
        · rw [if_neg (by omega), if_neg (by omega)] at hpe
          obtain ⟨e1, e2, e3⟩ := RG.out hpe
          have p1 := posn1 (bytesOf s)
          have p2 := posn2 (bytesOf s)
          have p3 := posn3 (bytesOf s)
          obtain ⟨hn0, _, _⟩ := HW.out 6 (by omega)
          obtain ⟨hn1, _, _⟩ := HW.out (posn (bytesOf s) 1) (by omega)
          obtain ⟨hn2, _, _⟩ := HW.out (posn (bytesOf s) 2) (by omega)
          obtain ⟨hn3, _, _⟩ := HW.out (posn (bytesOf s) 3) (by omega)
          have hD : decCfg (bytesOf s) = ⟨nth (bytesOf s) 1, nth (bytesOf s) 2, nth (bytesOf s) 3, nth (bytesOf s) 4, nth (bytesOf s) 5, slotsAt (bytesOf s) 7 (cntAt (bytesOf s) 6), ownersAt (bytesOf s) (posn (bytesOf s) 1 + 1) (cntAt (bytesOf s) (posn (bytesOf s) 1)), chansAt (bytesOf s) (posn (bytesOf s) 2 + 1) (cntAt (bytesOf s) (posn (bytesOf s) 2)), tasksAt (bytesOf s) (posn (bytesOf s) 3 + 1) (cntAt (bytesOf s) (posn (bytesOf s) 3))⟩ := by rw [p1, p2, p3]; rfl
          rw [hD] at e1 e3
          obtain ⟨A', c', hv, _, _, _, _, hcase⟩ := own_form hown
          injection hv with hv1 hv2 hv3
          subst hv1; subst hv3
          rcases hcase with ⟨_, h0, _⟩ | ⟨gr, rfl, hgr1, hgr2, hcells⟩
          · omega
          have cr0 : wr.cell? ⟨gr, 0, none⟩ = some (.int .i64 ((6 : Nat) : Int)) := hcells 0 _ rfl
          have cr1 : wr.cell? ⟨gr, 1, none⟩ = some (.int .i64 (posn (bytesOf s) 1 : Nat)) := by have := hcells 1 _ rfl; rwa [Nat.zero_add] at this
          have cr2 : wr.cell? ⟨gr, 2, none⟩ = some (.int .i64 (posn (bytesOf s) 2 : Nat)) := by have := hcells 2 _ rfl; rwa [Nat.zero_add] at this
          have cr3 : wr.cell? ⟨gr, 3, none⟩ = some (.int .i64 (posn (bytesOf s) 3 : Nat)) := by have := hcells 3 _ rfl; rwa [Nat.zero_add] at this
          obtain ⟨ob, hob⟩ : ∃ ob, wr.heap[gr]? = some ob := ⟨_, Array.getElem?_eq_getElem hgr2⟩
          have h2 : decide (s.size < posn (bytesOf s) 4) = false := decide_eq_false (by omega)
          have h3 : decide ((s.size : Int) < (posn (bytesOf s) 4 : Int)) = false := decide_eq_false (by omega)
          have h5 : decide (posn (bytesOf s) 4 < s.size) = false := decide_eq_false (by omega)
          have h6 : decide ((posn (bytesOf s) 4 : Int) < (s.size : Int)) = false := decide_eq_false (by omega)
          have HB1 := Lib.hid (fun W (h : W.heap[w.heap.size]? = some (.cells #[.string s] 9)) => (refByte s w.heap.size 1 W h (by omega) (by omega) : Calls Try.prog 92 #[.int .i64 1, .pointer (some ⟨w.heap.size, 0, none⟩)] W fun e w' => e = .returned (.int .i64 (nth (bytesOf s) 1)) ∧ W = w'))
          have HB2 := Lib.hid (fun W (h : W.heap[w.heap.size]? = some (.cells #[.string s] 9)) => (refByte s w.heap.size 2 W h (by omega) (by omega) : Calls Try.prog 92 #[.int .i64 2, .pointer (some ⟨w.heap.size, 0, none⟩)] W fun e w' => e = .returned (.int .i64 (nth (bytesOf s) 2)) ∧ W = w'))
          have HB3 := Lib.hid (fun W (h : W.heap[w.heap.size]? = some (.cells #[.string s] 9)) => (refByte s w.heap.size 3 W h (by omega) (by omega) : Calls Try.prog 92 #[.int .i64 3, .pointer (some ⟨w.heap.size, 0, none⟩)] W fun e w' => e = .returned (.int .i64 (nth (bytesOf s) 3)) ∧ W = w'))
          have HB4 := Lib.hid (fun W (h : W.heap[w.heap.size]? = some (.cells #[.string s] 9)) => (refByte s w.heap.size 4 W h (by omega) (by omega) : Calls Try.prog 92 #[.int .i64 4, .pointer (some ⟨w.heap.size, 0, none⟩)] W fun e w' => e = .returned (.int .i64 (nth (bytesOf s) 4)) ∧ W = w'))
          have HB5 := Lib.hid (fun W (h : W.heap[w.heap.size]? = some (.cells #[.string s] 9)) => (refByte s w.heap.size 5 W h (by omega) (by omega) : Calls Try.prog 92 #[.int .i64 5, .pointer (some ⟨w.heap.size, 0, none⟩)] W fun e w' => e = .returned (.int .i64 (nth (bytesOf s) 5)) ∧ W = w'))
          have m0 : 6 + 3 * cntAt (bytesOf s) 6 < s.size := by omega
          have m1 : posn (bytesOf s) 1 + 1 * cntAt (bytesOf s) (posn (bytesOf s) 1) < s.size := by omega
          have m2 : posn (bytesOf s) 2 + 3 * cntAt (bytesOf s) (posn (bytesOf s) 2) < s.size := by omega
          have m3 : posn (bytesOf s) 3 + 7 * cntAt (bytesOf s) (posn (bytesOf s) 3) < s.size := by omega
          replace a0 := a0.2; replace a1 := a1.2; replace a2 := a2.2; replace a3 := a3.2
          clear RF RG HL HQ HW hps hpe g1 g2 g3 g4 hp0 hD p1 p2 p3 hown hcells h4
          replace hn0 := Lib.hid hn0; replace hn1 := Lib.hid hn1; replace hn2 := Lib.hid hn2; replace hn3 := Lib.hid hn3
          generalize posn (bytesOf s) 4 = P4 at *
          generalize cntAt (bytesOf s) (posn (bytesOf s) 1) = N1 at *
          generalize posn (bytesOf s) 1 = P1 at *
          generalize cntAt (bytesOf s) (posn (bytesOf s) 2) = N2 at *
          generalize posn (bytesOf s) 2 = P2 at *
          generalize cntAt (bytesOf s) (posn (bytesOf s) 3) = N3 at *
          generalize posn (bytesOf s) 3 = P3 at *
          generalize cntAt (bytesOf s) 6 = N0 at *
          have he1 := enters_refByte
          unfold Enters at he1
          replace e1 := Lib.hid e1; replace e3 := Lib.hid e3; replace e2 := Lib.hid e2
          have zs := (blk hsg).2.2; have zc := (blk hcg).2.2
          go_wp2_with fail
          go_at_call 92
          refine (HB1.out _ hsg).mono ?_
          rintro e w1 ⟨rfl, rfl⟩
          go_wp2_with fail
          go_at_call 92
          refine (HB2.out _ hsg).mono ?_
          rintro e w1 ⟨rfl, rfl⟩
          go_wp2_with fail
          go_at_call 92
          refine (HB3.out _ hsg).mono ?_
          rintro e w1 ⟨rfl, rfl⟩
          go_wp2_with fail
          go_at_call 92
          refine (HB4.out _ hsg).mono ?_
          rintro e w1 ⟨rfl, rfl⟩
          go_wp2_with fail
          go_at_call 92
          refine (HB5.out _ hsg).mono ?_
          rintro e w1 ⟨rfl, rfl⟩
          clear HB1 HB2 HB3 HB4 HB5
          generalize nth (bytesOf s) 1 = d1 at *; generalize nth (bytesOf s) 2 = d2 at *; generalize nth (bytesOf s) 3 = d3 at *; generalize nth (bytesOf s) 4 = d4 at *; generalize nth (bytesOf s) 5 = d5 at *
          go_wp2_with fail
          refine loopS _ (by kernel_rfl) s hs2 w.heap.size gr wr.heap.size _ 6 N0 (by omega) m0 hn0.out _ (by (repeat (first | with_reducible exact heap_set2 (by with_reducible assumption) | with_reducible exact heap_set2 (heapAt _ _ _ rfl) | with_reducible exact heap_set1 (by with_reducible assumption) | with_reducible exact heap_set1 (heapAt _ _ _ rfl) | with_reducible assumption | (with_reducible refine heapAt _ _ _ ?_; first | rfl | (first | omega | (simp <;> omega))) | (with_reducible refine heap_drew ?_) | (with_reducible refine heap_drewN ?_) | (with_reducible refine (heap_alloc_old _ _ ?_).trans ?_; (first | omega | (simp <;> omega))) | (with_reducible refine heap_set_far ?_ ?_; rotate_left; (first | omega | (simp <;> omega)))))) ((cell_heap (by rw [hob]; (repeat (first | with_reducible exact heap_set2 (by with_reducible assumption) | with_reducible exact heap_set2 (heapAt _ _ _ rfl) | with_reducible exact heap_set1 (by with_reducible assumption) | with_reducible exact heap_set1 (heapAt _ _ _ rfl) | with_reducible assumption | (with_reducible refine heapAt _ _ _ ?_; first | rfl | (first | omega | (simp <;> omega))) | (with_reducible refine heap_drew ?_) | (with_reducible refine heap_drewN ?_) | (with_reducible refine (heap_alloc_old _ _ ?_).trans ?_; (first | omega | (simp <;> omega))) | (with_reducible refine heap_set_far ?_ ?_; rotate_left; (first | omega | (simp <;> omega)))))) 0).trans cr0) (by simp; omega) (by (repeat (first | with_reducible exact heap_set2 (by with_reducible assumption) | with_reducible exact heap_set2 (heapAt _ _ _ rfl) | with_reducible exact heap_set1 (by with_reducible assumption) | with_reducible exact heap_set1 (heapAt _ _ _ rfl) | with_reducible assumption | (with_reducible refine heapAt _ _ _ ?_; first | rfl | (first | omega | (simp <;> omega))) | (with_reducible refine heap_drew ?_) | (with_reducible refine heap_drewN ?_) | (with_reducible refine (heap_alloc_old _ _ ?_).trans ?_; (first | omega | (simp <;> omega))) | (with_reducible refine heap_set_far ?_ ?_; rotate_left; (first | omega | (simp <;> omega)))))) (by omega) (by omega) _ ?_
          intro A5 n5 W1 v13 v14 v100 v101 v102 v103 v104 v105 v106 v107 v108 v109 v110 v111 v112 v113 v114 v115 v116 v117 v118 v119 v120 v121 v122 v123 v124 v125 v126 v127 v128 hc1 ho1 hk1 hb1
          have x1 : W1.heap[w.heap.size]? = some (.cells #[.string s] 9) := (hk1 _ ⟨by omega, by simp; omega⟩).trans (by (repeat (first | with_reducible exact heap_set2 (by with_reducible assumption) | with_reducible exact heap_set2 (heapAt _ _ _ rfl) | with_reducible exact heap_set1 (by with_reducible assumption) | with_reducible exact heap_set1 (heapAt _ _ _ rfl) | with_reducible assumption | (with_reducible refine heapAt _ _ _ ?_; first | rfl | (first | omega | (simp <;> omega))) | (with_reducible refine heap_drew ?_) | (with_reducible refine heap_drewN ?_) | (with_reducible refine (heap_alloc_old _ _ ?_).trans ?_; (first | omega | (simp <;> omega))) | (with_reducible refine heap_set_far ?_ ?_; rotate_left; (first | omega | (simp <;> omega))))))
          have y1 : W1.heap[w.heap.size + 1]? = some (.cells #[.int .i64 0, .int .i64 0, .int .i64 0, .int .i64 0, .int .i64 0, .slice none 0 0, .slice none 0 0, .slice none 0 0, .slice none 0 0] 63) := (hk1 _ ⟨by omega, by simp; omega⟩).trans (by (repeat (first | with_reducible exact heap_set2 (by with_reducible assumption) | with_reducible exact heap_set2 (heapAt _ _ _ rfl) | with_reducible exact heap_set1 (by with_reducible assumption) | with_reducible exact heap_set1 (heapAt _ _ _ rfl) | with_reducible assumption | (with_reducible refine heapAt _ _ _ ?_; first | rfl | (first | omega | (simp <;> omega))) | (with_reducible refine heap_drew ?_) | (with_reducible refine heap_drewN ?_) | (with_reducible refine (heap_alloc_old _ _ ?_).trans ?_; (first | omega | (simp <;> omega))) | (with_reducible refine heap_set_far ?_ ?_; rotate_left; (first | omega | (simp <;> omega))))))
          have ob1 : W1.heap[gr]? = some ob := (hk1 _ ⟨by omega, by simp; omega⟩).trans (by (repeat (first | with_reducible exact heap_set2 (by with_reducible assumption) | with_reducible exact heap_set2 (heapAt _ _ _ rfl) | with_reducible exact heap_set1 (by with_reducible assumption) | with_reducible exact heap_set1 (heapAt _ _ _ rfl) | with_reducible assumption | (with_reducible refine heapAt _ _ _ ?_; first | rfl | (first | omega | (simp <;> omega))) | (with_reducible refine heap_drew ?_) | (with_reducible refine heap_drewN ?_) | (with_reducible refine (heap_alloc_old _ _ ?_).trans ?_; (first | omega | (simp <;> omega))) | (with_reducible refine heap_set_far ?_ ?_; rotate_left; (first | omega | (simp <;> omega))))))
          have z1 := hb1.size; simp at z1
          have B1 : Below w.heap.size w W1 := (by repeat (first | with_reducible exact Below.refl _ _ | with_reducible assumption | (with_reducible refine Below.drew ?_) | (with_reducible refine Below.alloc ?_ ?_ _; rotate_left; (first | omega | (simp <;> omega))) | (with_reducible refine Below.setCell ?_ ?_ _; rotate_left; (first | omega | (simp <;> omega))) | (with_reducible refine below_drewN ?_ _) | (refine Below.trans ?_ (Below.mono (by with_reducible assumption) (by first | omega | (simp <;> omega))))))
          have s1 := sl_of_own_rng (xs := slotsAt (bytesOf s) 7 N0) (f := TSlot.cells) (hf := fun _ => rfl) (by simp [slotsAt]) ho1
          have s1 : Sl cSlot (Rng (wr.heap.size + 1) W1.heap.size) W1 A5 n5 (slotsAt (bytesOf s) 7 N0) := s1.mono (fun b hb => by have h1 := hb.1; have h2 := hb.2; simp at h1; exact ⟨by omega, h2⟩)
          have cr1' := (cell_heap (ob1.trans hob.symm) 1).trans cr1
          have cr2' := (cell_heap (ob1.trans hob.symm) 2).trans cr2
          have cr3' := (cell_heap (ob1.trans hob.symm) 3).trans cr3
          clear hk1 ho1 hb1 cr0 cr1 cr2 cr3 hob
          go_wp2_with fail
          refine loopO _ (by kernel_rfl) s hs2 w.heap.size gr wr.heap.size _ P1 N1 (by omega) m1 hn1.out _ x1 cr1' (by omega) hc1 (by omega) (by omega) _ ?_
          intro A6 n6 W2 v15 v129 v130 v131 v132 v133 v134 v135 v136 v137 v138 v139 v140 v141 v142 v143 v144 v145 v146 v147 v148 v149 v150 hc2 ho hk hb
          have x2 : W2.heap[w.heap.size]? = some (.cells #[.string s] 9) := (hk _ ⟨by omega, by omega⟩).trans x1
          have y2 : W2.heap[w.heap.size + 1]? = some (.cells #[.int .i64 0, .int .i64 0, .int .i64 0, .int .i64 0, .int .i64 0, .slice none 0 0, .slice none 0 0, .slice none 0 0, .slice none 0 0] 63) := (hk _ ⟨by omega, by omega⟩).trans y1
          replace cr2' := (cell_heap (hk gr ⟨by omega, by omega⟩) 2).trans cr2'
          replace cr3' := (cell_heap (hk gr ⟨by omega, by omega⟩) 3).trans cr3'
          have z2 := hb.size
          have B2 : Below w.heap.size w W2 := B1.trans (hb.mono (by omega))
          replace s1 := s1.keepI (hk.mono fun b hb => (by simp only [Rng] at hb; exact ⟨by omega, by omega⟩))
          have s2 := sl_of_own_rng (xs := (ownersAt (bytesOf s) (P1 + 1) N1)) (f := (fun n => [Value.int .i64 n])) (hf := fun _ => rfl) (by simp [ownersAt]) ho
          clear hk ho hb
          go_wp2_with fail
          refine loopC _ (by kernel_rfl) s hs2 w.heap.size gr wr.heap.size _ P2 N2 (by omega) m2 hn2.out _ x2 cr2' (by omega) hc2 (by omega) (by omega) _ ?_
          intro A7 n7 W3 v16 v17 v151 v152 v153 v154 v155 v156 v157 v158 v159 v160 v161 v162 v163 v164 v165 v166 v167 v168 v169 v170 v171 v172 v173 v174 v175 v176 v177 v178 v179 v180 v181 v182 v183 hc3 ho hk hb
          have x3 : W3.heap[w.heap.size]? = some (.cells #[.string s] 9) := (hk _ ⟨by omega, by omega⟩).trans x2
          have y3 : W3.heap[w.heap.size + 1]? = some (.cells #[.int .i64 0, .int .i64 0, .int .i64 0, .int .i64 0, .int .i64 0, .slice none 0 0, .slice none 0 0, .slice none 0 0, .slice none 0 0] 63) := (hk _ ⟨by omega, by omega⟩).trans y2
          replace cr3' := (cell_heap (hk gr ⟨by omega, by omega⟩) 3).trans cr3'
          have z3 := hb.size
          have B3 : Below w.heap.size w W3 := B2.trans (hb.mono (by omega))
          replace s1 := s1.keepI (hk.mono fun b hb => (by simp only [Rng] at hb; exact ⟨by omega, by omega⟩))
          replace s2 := s2.keepI (hk.mono fun b hb => (by simp only [Rng] at hb; exact ⟨by omega, by omega⟩))
          have s3 := sl_of_own_rng (xs := (chansAt (bytesOf s) (P2 + 1) N2)) (f := TChan.cells) (hf := fun _ => rfl) (by simp [chansAt]) ho
          clear hk ho hb
          go_wp2_with fail
          refine loopT _ (by kernel_rfl) s hs2 w.heap.size gr wr.heap.size _ P3 N3 (by omega) m3 hn3.out _ x3 cr3' (by omega) hc3 (by omega) (by omega) _ ?_
          intro A8 n8 W4 v18 v19 v184 v185 v186 v187 v188 v189 v190 v191 v192 v193 v194 v195 v196 v197 v198 v199 v200 v201 v202 v203 v204 v205 v206 v207 v208 v209 v210 v211 v212 v213 v214 v215 v216 v217 v218 v219 v220 hc4 ho hk hb
          have x4 : W4.heap[w.heap.size]? = some (.cells #[.string s] 9) := (hk _ ⟨by omega, by omega⟩).trans x3
          have y4 : W4.heap[w.heap.size + 1]? = some (.cells #[.int .i64 0, .int .i64 0, .int .i64 0, .int .i64 0, .int .i64 0, .slice none 0 0, .slice none 0 0, .slice none 0 0, .slice none 0 0] 63) := (hk _ ⟨by omega, by omega⟩).trans y3
          have z4 := hb.size
          have B4 : Below w.heap.size w W4 := B3.trans (hb.mono (by omega))
          replace s1 := s1.keepI (hk.mono fun b hb => (by simp only [Rng] at hb; exact ⟨by omega, by omega⟩))
          replace s2 := s2.keepI (hk.mono fun b hb => (by simp only [Rng] at hb; exact ⟨by omega, by omega⟩))
          replace s3 := s3.keepI (hk.mono fun b hb => (by simp only [Rng] at hb; exact ⟨by omega, by omega⟩))
          have s4 := sl_of_own_rng (xs := (tasksAt (bytesOf s) (P3 + 1) N3)) (f := TTask.cells) (hf := fun _ => rfl) (by simp [tasksAt]) ho
          clear hk ho hb
          generalize hsl : slotsAt (bytesOf s) 7 N0 = sl at *
          generalize how : ownersAt (bytesOf s) (P1 + 1) N1 = ow at *
          generalize hch : chansAt (bytesOf s) (P2 + 1) N2 = ch at *
          generalize htk : tasksAt (bytesOf s) (P3 + 1) N3 = tk at *
          have l0 : N0 = sl.length := by rw [← hsl]; simp [slotsAt]
          have l1 : N1 = ow.length := by rw [← how]; simp [ownersAt]
          have l2 : N2 = ch.length := by rw [← hch]; simp [chansAt]
          have l3 : N3 = tk.length := by rw [← htk]; simp [tasksAt]
          rw [l0, l1, l2, l3] at hc4
          have hz1 : w.heap.size + 2 ≤ wr.heap.size := by omega
          have hat : TCfg.At (Rng (wr.heap.size + 1) W4.heap.size) W4 ⟨d1, d2, d3, d4, d5, sl, ow, ch, tk⟩ ⟨A5, n5, A6, n6, A7, n7, A8, n8⟩ := ⟨s1.mono fun b hb => (by simp only [Rng] at hb ⊢; omega), s2.mono fun b hb => (by simp only [Rng] at hb ⊢; omega), s3.mono fun b hb => (by simp only [Rng] at hb ⊢; omega), s4.mono fun b hb => (by simp only [Rng] at hb ⊢; omega)⟩
          have HC := Lib.hid (fun W (hh : Below W4.heap.size W4 W) => refCheckConfig ⟨d1, d2, d3, d4, d5, sl, ow, ch, tk⟩ ⟨A5, n5, A6, n6, A7, n7, A8, n8⟩ W4.heap.size W hh.size ((hat.rng (Nat.le_refl _)).next (Nat.le_refl _) hh))
          clear hsl how hch htk s1 s2 s3 s4 m0 m1 m2 m3 hn0 hn1 hn2 hn3 a0 a1 a2 a3 cr3'
          clear hc1 hc2 hc3 x1 x2 x3 y1 y2 y3
          subst l0 l1 l2 l3
          obtain ⟨cc, fc, zc4⟩ := blk hc4
          obtain ⟨cy, fy, zy4⟩ := blk y4
          cases b1 : (checkConfig ⟨d1, d2, d3, d4, d5, sl, ow, ch, tk⟩ == 0)
          · have e3' : DR = noCfg := by rw [e3.out, if_neg (by simpa using b1)]
            have e1' := e1.out
            have e2' := e2.out
            subst e1'; subst e2'; subst e3'
            have b2 : (checkConfig ⟨d1, d2, d3, d4, d5, sl, ow, ch, tk⟩ != 0) = true := by simpa using b1
            clear e1 e2 e3
            generalize checkConfig ⟨d1, d2, d3, d4, d5, sl, ow, ch, tk⟩ = CE at *
            go_wp2_with fail
            go_at_call 35
            refine (HC.out _ (by first | exact Below.refl _ _ | exact (Below.refl _ _).drew)).mono ?_
            rintro e w6 ⟨rfl, hb6⟩
            have r6 := (hb6.block _ zy4).trans y4
            have z6 := hb6.size
            obtain ⟨cy6, fy6, zy6⟩ := blk r6
            go_wp2_with fail
            refine bodyPost_ret (v := .tuple #[.agg #[.int .i64 0, .int .i64 0, .int .i64 0, .int .i64 0, .int .i64 0, .slice none 0 0, .slice none 0 0, .slice none 0 0, .slice none 0 0], .int .i64 0, .int .i64 CE]) (by simp [results, Try.results46, go_sem, cfg_set_cells r6]) rfl ?_
            exact ⟨⟨none, 0, none, 0, none, 0, none, 0⟩, rfl, noCfg_at _ _, (by repeat (first | with_reducible exact Below.refl _ _ | with_reducible assumption | (with_reducible refine Below.drew ?_) | (with_reducible refine Below.alloc ?_ ?_ _; rotate_left; (first | omega | (simp <;> omega))) | (with_reducible refine Below.setCell ?_ ?_ _; rotate_left; (first | omega | (simp <;> omega))) | (with_reducible refine below_drewN ?_ _) | (refine Below.trans ?_ (Below.mono (by with_reducible assumption) (by first | omega | (simp <;> omega))))))⟩
          · have b3 : checkConfig ⟨d1, d2, d3, d4, d5, sl, ow, ch, tk⟩ = 0 := by simpa using b1
            have e3' : DR = ⟨d1, d2, d3, d4, d5, sl, ow, ch, tk⟩ := by rw [e3.out, if_pos b3]
            have e1' := e1.out.trans b3
            have e2' := e2.out
            subst e1'; subst e2'; subst e3'
            rw [b3] at HC
            clear e1 e2 e3 b1 b3
            go_wp2_with fail
            go_at_call 35
            refine (HC.out _ (by first | exact Below.refl _ _ | exact (Below.refl _ _).drew)).mono ?_
            rintro e w6 ⟨rfl, hb6⟩
            have r6 := (hb6.block _ zy4).trans y4
            have k6 := (hb6.block _ zc4).trans hc4
            have z6 := hb6.size
            obtain ⟨cy6, fy6, zy6⟩ := blk r6
            obtain ⟨cc6, fc6, zc6⟩ := blk k6
            go_wp2_with fail
            refine bodyPost_ret (v := .tuple #[.agg #[.int .i64 d1, .int .i64 d2, .int .i64 d3, .int .i64 d4, .int .i64 d5, .slice A5 sl.length n5, .slice A6 ow.length n6, .slice A7 ch.length n7, .slice A8 tk.length n8], .int .i64 0, .int .i64 0]) (by simp [results, Try.results46, go_sem, cfg_set_cells r6]) rfl ?_
            refine ⟨⟨A5, n5, A6, n6, A7, n7, A8, n8⟩, rfl, ?_, (by repeat (first | with_reducible exact Below.refl _ _ | with_reducible assumption | (with_reducible refine Below.drew ?_) | (with_reducible refine Below.alloc ?_ ?_ _; rotate_left; (first | omega | (simp <;> omega))) | (with_reducible refine Below.setCell ?_ ?_ _; rotate_left; (first | omega | (simp <;> omega))) | (with_reducible refine below_drewN ?_ _) | (refine Below.trans ?_ (Below.mono (by with_reducible assumption) (by first | omega | (simp <;> omega))))))⟩
            refine (hat.keepI (by repeat (first | with_reducible exact KeepI.refl _ _ | with_reducible assumption | (with_reducible refine KeepI.drew ?_) | (with_reducible refine KeepI.drewN ?_ _) | ((with_reducible refine KeepI.alloc ?_ ?_ _); rotate_left; (intro kkI hkI; simp only [Low, Rng, LoR] at hkI; first | omega | (simp <;> omega) | (rcases hkI with hkI | hkI <;> first | omega | (simp <;> omega)))) | ((with_reducible refine KeepI.setCell ?_ ?_ _); rotate_left; (intro hkI; simp only [Low, Rng, LoR] at hkI; first | omega | (simp at hkI <;> omega))) | (refine KeepI.call ?_ (by with_reducible assumption) (by (intro kkI hkI; simp only [Low, Rng, LoR] at hkI; first | omega | (simp <;> omega) | (rcases hkI with hkI | hkI <;> first | omega | (simp <;> omega)))))))).mono ?_
            intro b hb
            simp only [Rng] at hb ⊢
            simp at hb ⊢
            omega
        · rw [if_neg (by omega), if_pos h4] at hpe
          obtain ⟨e1, e2, e3⟩ := RF.out _ hpe
          subst e1; subst e2; subst e3
          generalize posn (bytesOf s) 4 = P at *
          have h2 : decide (s.size < P) = false := decide_eq_false (by omega)
          have h3 : decide ((s.size : Int) < (P : Int)) = false := decide_eq_false (by omega)
          have h5 : decide (P < s.size) = true := decide_eq_true h4
          have h6 : decide ((P : Int) < (s.size : Int)) = true := decide_eq_true (by omega)
          clear RF RG HL HQ HW hps hpe a0 a1 a2 a3 g1 g2 g3 g4 hp0
          go_wp2_with fail
          refine bodyPost_ret (v := .tuple #[.agg #[.int .i64 0, .int .i64 0, .int .i64 0, .int .i64 0, .int .i64 0, .slice none 0 0, .slice none 0 0, .slice none 0 0, .slice none 0 0], .int .i64 P, .int .i64 1]) (by simp [results, Try.results46, go_sem, cfg_set_cells hcg]) rfl ?_
          exact ⟨⟨none, 0, none, 0, none, 0, none, 0⟩, rfl, noCfg_at _ _, (by repeat (first | with_reducible exact Below.refl _ _ | with_reducible assumption | (with_reducible refine Below.drew ?_) | (with_reducible refine Below.alloc ?_ ?_ _; rotate_left; (first | omega | (simp <;> omega))) | (with_reducible refine Below.setCell ?_ ?_ _; rotate_left; (first | omega | (simp <;> omega))) | (with_reducible refine below_drewN ?_ _) | (refine Below.trans ?_ (Below.mono (by with_reducible assumption) (by first | omega | (simp <;> omega))))))⟩
end Go.Proofs.Ytinlmkhlgclbfaa
