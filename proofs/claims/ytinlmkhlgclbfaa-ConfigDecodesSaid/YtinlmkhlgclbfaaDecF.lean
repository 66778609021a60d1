/-
  DecF: contract of the reader's config.
-/
import Derived.Test.YtinlmkhlgclbfaaDecE
namespace Go.Proofs.Ytinlmkhlgclbfaa
open Go.RowKit
set_option maxRecDepth 100000
set_option maxHeartbeats 4000000

theorem decFault_head {bs : List Int} (h0 : 0 < bs.length) (h : nth bs 0 ≠ 67) : decFault bs = 0 := by unfold decFault; rw [if_pos ⟨h0, h⟩]
theorem decFault_short {bs : List Int} (h : 0 < bs.length → nth bs 0 = 67) (h6 : bs.length ≤ 6) : decFault bs = bs.length := by
  unfold decFault; rw [if_neg (by rintro ⟨a, b⟩; exact b (h a)), if_pos h6]
theorem decFault_1 {bs : List Int} {n : Nat} (h : nth bs 0 = 67) (hf : PF bs 6 3 6 n) : decFault bs = n := by
  unfold decFault
  rw [if_neg (by rintro ⟨_, b⟩; exact b h)]
  rcases hf with ⟨a, rfl⟩ | ⟨a, b, rfl⟩ | ⟨a, b, c, rfl⟩
  · rw [if_pos a]
  · rw [if_neg (by omega), if_pos b]; rfl
  · rw [if_neg (by omega), if_neg (by omega), if_pos (by unfold q1; omega)]
theorem decFault_2 {bs : List Int} {n : Nat} (h : nth bs 0 = 67) (g1 : PG bs 6 3 6) (hf : PF bs (q1 bs) 1 4 n) : decFault bs = n := by
  obtain ⟨x1, x2, x3⟩ := g1
  unfold decFault
  rw [if_neg (by rintro ⟨_, b⟩; exact b h), if_neg (by omega), if_neg (by omega)]
  rcases hf with ⟨a, rfl⟩ | ⟨a, b, rfl⟩ | ⟨a, b, c, rfl⟩
  · rw [if_pos a]
  · rw [if_neg (by omega), if_pos b]
  · rw [if_neg (by omega), if_neg (by omega), if_pos (by unfold q2; omega)]
theorem decFault_3 {bs : List Int} {n : Nat} (h : nth bs 0 = 67) (g1 : PG bs 6 3 6) (g2 : PG bs (q1 bs) 1 4) (hf : PF bs (q2 bs) 3 4 n) : decFault bs = n := by
  obtain ⟨x1, x2, x3⟩ := g1
  obtain ⟨y1, y2, y3⟩ := g2
  unfold decFault
  rw [if_neg (by rintro ⟨_, b⟩; exact b h), if_neg (by omega), if_neg (by omega), if_neg (by omega), if_neg (by omega)]
  rcases hf with ⟨a, rfl⟩ | ⟨a, b, rfl⟩ | ⟨a, b, c, rfl⟩
  · rw [if_pos a]
  · rw [if_neg (by omega), if_pos b]
  · rw [if_neg (by omega), if_neg (by omega), if_pos (by unfold q3; omega)]
theorem decFault_4 {bs : List Int} {n : Nat} (h : nth bs 0 = 67) (g1 : PG bs 6 3 6) (g2 : PG bs (q1 bs) 1 4) (g3 : PG bs (q2 bs) 3 4) (hf : PF bs (q3 bs) 7 6 n) : decFault bs = n := by
  obtain ⟨x1, x2, x3⟩ := g1
  obtain ⟨y1, y2, y3⟩ := g2
  obtain ⟨z1, z2, z3⟩ := g3
  unfold decFault
  rw [if_neg (by rintro ⟨_, b⟩; exact b h), if_neg (by omega), if_neg (by omega), if_neg (by omega), if_neg (by omega), if_neg (by omega), if_neg (by omega)]
  rcases hf with ⟨a, rfl⟩ | ⟨a, b, rfl⟩ | ⟨a, b, c, rfl⟩
  · rw [if_pos a]
  · rw [if_neg (by omega), if_pos b]
  · rw [if_neg (by omega), if_neg (by omega), if_pos (by unfold q4; omega)]
theorem decFault_5 {bs : List Int} (h : nth bs 0 = 67) (g1 : PG bs 6 3 6) (g2 : PG bs (q1 bs) 1 4) (g3 : PG bs (q2 bs) 3 4) (g4 : PG bs (q3 bs) 7 6) : decFault bs = if q4 bs < bs.length then (q4 bs : Int) else -1 := by
  obtain ⟨x1, x2, x3⟩ := g1
  obtain ⟨y1, y2, y3⟩ := g2
  obtain ⟨z1, z2, z3⟩ := g3
  obtain ⟨u1, u2, u3⟩ := g4
  unfold decFault
  rw [if_neg (by rintro ⟨_, b⟩; exact b h), if_neg (by omega), if_neg (by omega), if_neg (by omega), if_neg (by omega), if_neg (by omega), if_neg (by omega), if_neg (by omega), if_neg (by omega), if_neg (by unfold q4; omega)]

/-- a plain field, filled or not yet -/
def fld (bs : List Int) (i k : Nat) : Value := .int .i64 (if k < i then nth bs (k + 1) else 0)

theorem readerConfig (s : ByteArray) (g : Nat) (w : World) (hs : s.size ≤ 200) (hr : Rd g w s 0) :
    Calls Try.prog 119 #[.pointer (some ⟨g, 0, none⟩)] w fun en w' =>
      (decFault (bytesOf s) = -1 ∧ ∃ S, en = .returned (.agg #[.int .i64 (decCfg (bytesOf s)).sets, .int .i64 (decCfg (bytesOf s)).ways, .int .i64 (decCfg (bytesOf s)).doms, .int .i64 (decCfg (bytesOf s)).pad, .int .i64 (decCfg (bytesOf s)).quantum, .slice S.a0 (decCfg (bytesOf s)).slots.length S.n0, .slice S.a1 (decCfg (bytesOf s)).owners.length S.n1, .slice S.a2 (decCfg (bytesOf s)).chans.length S.n2, .slice S.a3 (decCfg (bytesOf s)).tasks.length S.n3]) ∧ TCfg.At (Rng w.heap.size w'.heap.size) w' (decCfg (bytesOf s)) S ∧ Below g w w') ∨ (∃ n : Nat, decFault (bytesOf s) = n ∧ Gives g n w en w') := by
  have hlen := bytesOf_length s
  have zg := (blk hr).2.2
  generalize hbs : bytesOf s = bs at *
  go_enter Try.func119, Try.ntmps119
  go_wp2_with fail
  have hA : ∀ a b c, Rd g (((w.alloc a).alloc b).alloc c) s 0 := fun a b c => (heap_alloc_old _ _ (by simp; omega)).trans ((heap_alloc_old _ _ (by simp; omega)).trans ((heap_alloc_old _ _ zg).trans hr))
  go_at_call 131
  by_cases t0 : s.size ≤ 0
  · refine (readerOneEnd s g 0 _ (hA _ _ _) t0 (by omega)).mono ?_
    rintro e w1 ⟨rfl, hb1⟩
    exact ⟨rfl, .inr ⟨s.size, by rw [← hlen]; exact decFault_short (by omega) (by omega), rfl, (by repeat (first | with_reducible exact Below.refl _ _ | with_reducible assumption | (with_reducible refine Below.drew ?_) | (with_reducible refine Below.alloc ?_ ?_ _; rotate_left; (first | omega | (simp <;> omega))) | (with_reducible refine Below.setCell ?_ ?_ _; rotate_left; (first | omega | (simp <;> omega))) | (with_reducible refine below_drewN ?_ _) | (refine Below.trans ?_ (Below.mono (by with_reducible assumption) (by first | omega | (simp <;> omega))))))⟩⟩
  refine (readerOne s g 0 _ (hA _ _ _) (by omega) (by omega)).mono ?_
  rintro e w1 ⟨rfl, hr1, hk1⟩
  unfold Rd at hr1
  have q1' := hk1.below
  have k1 := q1'.size
  simp at k1
  have hb1 : w1.heap[w.heap.size]? = some (.cells #[.pointer (some ⟨g, 0, none⟩)] 159) := (hk1.block _ (by simp; omega) (by omega) (by simp)).trans (by (repeat (first | with_reducible exact heap_set2 (by with_reducible assumption) | with_reducible exact heap_set2 (heapAt _ _ _ rfl) | with_reducible exact heap_set1 (by with_reducible assumption) | with_reducible exact heap_set1 (heapAt _ _ _ rfl) | with_reducible assumption | (with_reducible refine heapAt _ _ _ ?_; first | rfl | (first | omega | (simp <;> omega))) | (with_reducible refine heap_drew ?_) | (with_reducible refine heap_drewN ?_) | (with_reducible refine (heap_alloc_old _ _ ?_).trans ?_; (first | omega | (simp <;> omega))) | (with_reducible refine heap_set_far ?_ ?_; rotate_left; (first | omega | (simp <;> omega))))))
  have hz1 : w1.heap[w.heap.size + 1]? = some (.cells #[.int .i64 0, .int .i64 0, .int .i64 0, .int .i64 0, .int .i64 0, .slice none 0 0, .slice none 0 0, .slice none 0 0, .slice none 0 0] 63) := (hk1.block _ (by simp) (by omega) (by simp)).trans (by (repeat (first | with_reducible exact heap_set2 (by with_reducible assumption) | with_reducible exact heap_set2 (heapAt _ _ _ rfl) | with_reducible exact heap_set1 (by with_reducible assumption) | with_reducible exact heap_set1 (heapAt _ _ _ rfl) | with_reducible assumption | (with_reducible refine heapAt _ _ _ ?_; first | rfl | (first | omega | (simp <;> omega))) | (with_reducible refine heap_drew ?_) | (with_reducible refine heap_drewN ?_) | (with_reducible refine (heap_alloc_old _ _ ?_).trans ?_; (first | omega | (simp <;> omega))) | (with_reducible refine heap_set_far ?_ ?_; rotate_left; (first | omega | (simp <;> omega))))))
  have hc1 : w1.heap[w.heap.size + 2]? = some (.cells #[.int .i64 0, .int .i64 0, .int .i64 0, .int .i64 0, .int .i64 0, .slice none 0 0, .slice none 0 0, .slice none 0 0, .slice none 0 0] 63) := (hk1.block _ (by simp) (by omega) (by simp)).trans (by (repeat (first | with_reducible exact heap_set2 (by with_reducible assumption) | with_reducible exact heap_set2 (heapAt _ _ _ rfl) | with_reducible exact heap_set1 (by with_reducible assumption) | with_reducible exact heap_set1 (heapAt _ _ _ rfl) | with_reducible assumption | (with_reducible refine heapAt _ _ _ ?_; first | rfl | (first | omega | (simp <;> omega))) | (with_reducible refine heap_drew ?_) | (with_reducible refine heap_drewN ?_) | (with_reducible refine (heap_alloc_old _ _ ?_).trans ?_; (first | omega | (simp <;> omega))) | (with_reducible refine heap_set_far ?_ ?_; rotate_left; (first | omega | (simp <;> omega))))))
  obtain ⟨cb1, fb1, zb1⟩ := blk hb1
  obtain ⟨cc1, fc1, zc1⟩ := blk hc1
  rw [hbs]
  by_cases t67 : nth bs 0 = 67
  case neg =>
    have hne : (nth bs 0 != 67) = true := by simp [t67]
    have hF := Lib.hid (decFault_head (by omega) t67)
    go_wp2_with fail
    exact ⟨rfl, .inr ⟨0, hF.out, rfl, (by repeat (first | with_reducible exact Below.refl _ _ | with_reducible assumption | (with_reducible refine Below.drew ?_) | (with_reducible refine Below.alloc ?_ ?_ _; rotate_left; (first | omega | (simp <;> omega))) | (with_reducible refine Below.setCell ?_ ?_ _; rotate_left; (first | omega | (simp <;> omega))) | (with_reducible refine below_drewN ?_ _) | (refine Below.trans ?_ (Below.mono (by with_reducible assumption) (by first | omega | (simp <;> omega))))))⟩⟩
  have h67 := Lib.hid t67
  rw [t67]
  clear t67
  go_wp2_with fail
  go_loopw [17] (fun iv wr => ∃ i : Nat, i ≤ 5 ∧ iv = .int .i64 i ∧ i < s.size ∧ Rd g wr s (1 + i) ∧ wr.heap[w.heap.size]? = some (.cells #[.pointer (some ⟨g, 0, none⟩)] 159) ∧ wr.heap[w1.heap.size]? = some (.cells #[.pointer (some ⟨w.heap.size + 2, 0, none⟩), .pointer (some ⟨w.heap.size + 2, 1, none⟩), .pointer (some ⟨w.heap.size + 2, 2, none⟩), .pointer (some ⟨w.heap.size + 2, 3, none⟩), .pointer (some ⟨w.heap.size + 2, 4, none⟩)] 172) ∧ wr.heap[w.heap.size + 1]? = some (.cells #[.int .i64 0, .int .i64 0, .int .i64 0, .int .i64 0, .int .i64 0, .slice none 0 0, .slice none 0 0, .slice none 0 0, .slice none 0 0] 63) ∧ wr.heap[w.heap.size + 2]? = some (.cells #[fld bs i 0, fld bs i 1, fld bs i 2, fld bs i 3, fld bs i 4, .slice none 0 0, .slice none 0 0, .slice none 0 0, .slice none 0 0] 63) ∧ Below g w wr) (fun iv _ => 5 - (intOf iv).toNat)
  case atStart => exact ⟨0, by omega, rfl, by omega, by unfold Rd; (repeat (first | with_reducible exact heap_set2 (by with_reducible assumption) | with_reducible exact heap_set2 (heapAt _ _ _ rfl) | with_reducible exact heap_set1 (by with_reducible assumption) | with_reducible exact heap_set1 (heapAt _ _ _ rfl) | with_reducible assumption | (with_reducible refine heapAt _ _ _ ?_; first | rfl | (first | omega | (simp <;> omega))) | (with_reducible refine heap_drew ?_) | (with_reducible refine heap_drewN ?_) | (with_reducible refine (heap_alloc_old _ _ ?_).trans ?_; (first | omega | (simp <;> omega))) | (with_reducible refine heap_set_far ?_ ?_; rotate_left; (first | omega | (simp <;> omega))))), (by (repeat (first | with_reducible exact heap_set2 (by with_reducible assumption) | with_reducible exact heap_set2 (heapAt _ _ _ rfl) | with_reducible exact heap_set1 (by with_reducible assumption) | with_reducible exact heap_set1 (heapAt _ _ _ rfl) | with_reducible assumption | (with_reducible refine heapAt _ _ _ ?_; first | rfl | (first | omega | (simp <;> omega))) | (with_reducible refine heap_drew ?_) | (with_reducible refine heap_drewN ?_) | (with_reducible refine (heap_alloc_old _ _ ?_).trans ?_; (first | omega | (simp <;> omega))) | (with_reducible refine heap_set_far ?_ ?_; rotate_left; (first | omega | (simp <;> omega)))))), (by (repeat (first | with_reducible exact heap_set2 (by with_reducible assumption) | with_reducible exact heap_set2 (heapAt _ _ _ rfl) | with_reducible exact heap_set1 (by with_reducible assumption) | with_reducible exact heap_set1 (heapAt _ _ _ rfl) | with_reducible assumption | (with_reducible refine heapAt _ _ _ ?_; first | rfl | (first | omega | (simp <;> omega))) | (with_reducible refine heap_drew ?_) | (with_reducible refine heap_drewN ?_) | (with_reducible refine (heap_alloc_old _ _ ?_).trans ?_; (first | omega | (simp <;> omega))) | (with_reducible refine heap_set_far ?_ ?_; rotate_left; (first | omega | (simp <;> omega)))))), (by (repeat (first | with_reducible exact heap_set2 (by with_reducible assumption) | with_reducible exact heap_set2 (heapAt _ _ _ rfl) | with_reducible exact heap_set1 (by with_reducible assumption) | with_reducible exact heap_set1 (heapAt _ _ _ rfl) | with_reducible assumption | (with_reducible refine heapAt _ _ _ ?_; first | rfl | (first | omega | (simp <;> omega))) | (with_reducible refine heap_drew ?_) | (with_reducible refine heap_drewN ?_) | (with_reducible refine (heap_alloc_old _ _ ?_).trans ?_; (first | omega | (simp <;> omega))) | (with_reducible refine heap_set_far ?_ ?_; rotate_left; (first | omega | (simp <;> omega)))))), (show _ = some (Obj.cells #[.int .i64 0, .int .i64 0, .int .i64 0, .int .i64 0, .int .i64 0, .slice none 0 0, .slice none 0 0, .slice none 0 0, .slice none 0 0] 63) from (by (repeat (first | with_reducible exact heap_set2 (by with_reducible assumption) | with_reducible exact heap_set2 (heapAt _ _ _ rfl) | with_reducible exact heap_set1 (by with_reducible assumption) | with_reducible exact heap_set1 (heapAt _ _ _ rfl) | with_reducible assumption | (with_reducible refine heapAt _ _ _ ?_; first | rfl | (first | omega | (simp <;> omega))) | (with_reducible refine heap_drew ?_) | (with_reducible refine heap_drewN ?_) | (with_reducible refine (heap_alloc_old _ _ ?_).trans ?_; (first | omega | (simp <;> omega))) | (with_reducible refine heap_set_far ?_ ?_; rotate_left; (first | omega | (simp <;> omega))))))), (by repeat (first | with_reducible exact Below.refl _ _ | with_reducible assumption | (with_reducible refine Below.drew ?_) | (with_reducible refine Below.alloc ?_ ?_ _; rotate_left; (first | omega | (simp <;> omega))) | (with_reducible refine Below.setCell ?_ ?_ _; rotate_left; (first | omega | (simp <;> omega))) | (with_reducible refine below_drewN ?_ _) | (refine Below.trans ?_ (Below.mono (by with_reducible assumption) (by first | omega | (simp <;> omega))))))⟩
  case round =>
    obtain ⟨i, hi, rfl, hisz, hr2, hb2, hp2, hz2, hc2, hbw⟩ := hrel
    unfold Rd at hr2
    obtain ⟨cb2, fb2, zb2⟩ := blk hb2
    obtain ⟨cp2, fp2, zp2⟩ := blk hp2
    obtain ⟨cc2, fc2, zc2⟩ := blk hc2
    by_cases hlt : i < 5
    · have hsz2 : s.size ≤ 1 + i ∨ 1 + i < s.size := by omega
      have hFs := Lib.hid (fun (h : s.size ≤ 6) => decFault_short (bs := bs) (fun _ => h67.out) (by omega))
      have hi5 : i = 0 ∨ i = 1 ∨ i = 2 ∨ i = 3 ∨ i = 4 := by omega
      have hE := Lib.hid (fun k (hk : k < 5) => show fld bs (i + 1) k = if k = i then .int .i64 (nth bs (1 + i)) else fld bs i k by
        unfold fld
        by_cases e : k = i
        · subst e; rw [if_pos (by omega), if_pos rfl, Nat.add_comm]
        · rw [if_neg e]
          by_cases h : k < i
          · rw [if_pos (by omega), if_pos h]
          · rw [if_neg (by omega), if_neg h])
      have zz := hbw.size
      obtain ⟨i', hi'⟩ : ∃ i', i' = i + 1 := ⟨_, rfl⟩
      have hi' := Lib.hid hi'
      rcases hi5 with rfl | rfl | rfl | rfl | rfl
      all_goals
        go_wp2_with fail
        go_at_call 131
        rcases hsz2 with t1 | t1
        · refine (readerOneEnd s g _ _ hr2 t1 (by omega)).mono ?_
          rintro e w2 ⟨rfl, hb3⟩
          exact ⟨rfl, .inr ⟨s.size, by rw [← hlen]; exact hFs.out (by omega), rfl, hbw.trans hb3⟩⟩
        refine (readerOne s g _ _ hr2 t1 (by omega)).mono ?_
        rintro e w2 ⟨rfl, hr3, hk3⟩
        unfold Rd at hr3
        have q3 := hk3.below
        have k3 := q3.size
        have hc3 := (hk3.block _ zc2 (by omega) (by simp)).trans hc2
        have hb3 := (hk3.block _ zb2 (by omega) (by simp)).trans hb2
        have hp3 := (hk3.block _ zp2 (by omega) (by simp)).trans hp2
        have hz3 := (hk3.block _ (by omega) (by omega) (by simp)).trans hz2
        obtain ⟨cc3, fc3, zc3⟩ := blk hc3
        rw [hbs]
        go_wp2_with fail
        go_roundw
        case rel =>
          refine ⟨i', ?_⟩
          have hi' := hi'.out
          subst hi'
          refine ⟨by omega, rfl, by omega, ?_, heap_set_far hb3 (by simp), heap_set_far hp3 (by simp; omega), heap_set_far hz3 (by simp), ?_, Below.setCell (hbw.trans q3) (by simp; omega) _⟩
          · unfold Rd; exact heap_set_far hr3 (by simp; omega)
          · refine (heap_set_same hc3).trans ?_
            rw [hE.out 0 (by omega), hE.out 1 (by omega), hE.out 2 (by omega), hE.out 3 (by omega), hE.out 4 (by omega)]
            rfl
        case measure => simp [intOf]
    · obtain rfl : i = 5 := by omega
      have hc2 : wr.heap[w.heap.size + 2]? = some (.cells #[.int .i64 (nth bs 1), .int .i64 (nth bs 2), .int .i64 (nth bs 3), .int .i64 (nth bs 4), .int .i64 (nth bs 5), .slice none 0 0, .slice none 0 0, .slice none 0 0, .slice none 0 0] 63) := hc2
      have e1 : q1 bs = 6 + 1 + 3 * cntAt bs 6 := by unfold q1; omega
      have e2 : q2 bs = q1 bs + 1 + cntAt bs (q1 bs) := rfl
      have e3 : q3 bs = q2 bs + 1 + 3 * cntAt bs (q2 bs) := rfl
      have e4 : q4 bs = q3 bs + 1 + 7 * cntAt bs (q3 bs) := rfl
      have zw := hbw.size
      clear hA hr hr1 hb1 hz1 hc1 cb1 fb1 zb1 cc1 fc1 zc1 hp2 cp2 fp2 cc2 fc2
      go_wp2_with fail
      go_at_call 132
      refine (phaseS (g := g) (gb := w.heap.size) (gc := w.heap.size + 2) (s := s) (p := 6) (w := wr) (by omega) (by omega) (by omega) (by omega) (by omega) hr2 hb2 hc2).mono ?_
      rw [hbs]
      rintro e u1 (⟨rfl, hG1, ⟨A1, n1, hrr1, hbb1, hcc1, hown1, hkk1, hN1⟩, hl1⟩ | ⟨n, hF, rfl, hl⟩)
      rotate_left
      · exact ⟨rfl, .inr ⟨n, decFault_1 h67.out  hF, rfl, Below.trans (by assumption) hl⟩⟩
      rw [hbs] at hown1
      have hw1 : Below g w u1 := hbw.trans hl1
      have hG1' := hG1
      obtain ⟨x1, x2, x3⟩ := hG1'
      obtain ⟨cb3, fb3, zb3⟩ := blk (show u1.heap[w.heap.size]? = some (.cells #[.pointer (some ⟨g, 0, none⟩)] 159) from hbb1)
      rw [← e1] at hrr1
      go_wp2_with fail
      go_at_call 132
      refine (phaseO (g := g) (gb := w.heap.size) (gc := w.heap.size + 2) (s := s) (p := q1 bs) (w := u1) (by omega) (by omega) (by omega) (by omega) (by omega) hrr1 hbb1 hcc1).mono ?_
      rw [hbs]
      rintro e u2 (⟨rfl, hG2, ⟨A2, n2, hrr2, hbb2, hcc2, hown2, hkk2, hN2⟩, hl2⟩ | ⟨n, hF, rfl, hl⟩)
      rotate_left
      · exact ⟨rfl, .inr ⟨n, decFault_2 h67.out hG1 hF, rfl, Below.trans (by assumption) hl⟩⟩
      rw [hbs] at hown2
      have hw2 : Below g w u2 := hw1.trans hl2
      have hG2' := hG2
      obtain ⟨y1, y2, y3⟩ := hG2'
      obtain ⟨cb4, fb4, zb4⟩ := blk (show u2.heap[w.heap.size]? = some (.cells #[.pointer (some ⟨g, 0, none⟩)] 159) from hbb2)
      rw [← e2] at hrr2
      go_wp2_with fail
      go_at_call 132
      refine (phaseC (g := g) (gb := w.heap.size) (gc := w.heap.size + 2) (s := s) (p := q2 bs) (w := u2) (by omega) (by omega) (by omega) (by omega) (by omega) hrr2 hbb2 hcc2).mono ?_
      rw [hbs]
      rintro e u3 (⟨rfl, hG3, ⟨A3, n3, hrr3, hbb3, hcc3, hown3, hkk3, hN3⟩, hl3⟩ | ⟨n, hF, rfl, hl⟩)
      rotate_left
      · exact ⟨rfl, .inr ⟨n, decFault_3 h67.out hG1 hG2 hF, rfl, Below.trans (by assumption) hl⟩⟩
      rw [hbs] at hown3
      have hw3 : Below g w u3 := hw2.trans hl3
      have hG3' := hG3
      obtain ⟨z1, z2, z3⟩ := hG3'
      obtain ⟨cb5, fb5, zb5⟩ := blk (show u3.heap[w.heap.size]? = some (.cells #[.pointer (some ⟨g, 0, none⟩)] 159) from hbb3)
      rw [← e3] at hrr3
      go_wp2_with fail
      go_at_call 132
      refine (phaseT (g := g) (gb := w.heap.size) (gc := w.heap.size + 2) (s := s) (p := q3 bs) (w := u3) (by omega) (by omega) (by omega) (by omega) (by omega) hrr3 hbb3 hcc3).mono ?_
      rw [hbs]
      rintro e u4 (⟨rfl, hG4, ⟨A4, n4, hrr4, hbb4, hcc4, hown4, hkk4, hN4⟩, hl4⟩ | ⟨n, hF, rfl, hl⟩)
      rotate_left
      · exact ⟨rfl, .inr ⟨n, decFault_4 h67.out hG1 hG2 hG3 hF, rfl, Below.trans (by assumption) hl⟩⟩
      rw [hbs] at hown4
      have hw4 : Below g w u4 := hw3.trans hl4
      have hF5 := Lib.hid (decFault_5 h67.out hG1 hG2 hG3 hG4)
      rw [← e4] at hrr4
      have hsz4 : q3 bs + 1 + 7 * cntAt bs (q3 bs) ≤ 300 → True := fun _ => trivial
      clear e1 e2 e3 e4 hsz4
      obtain ⟨cb6, fb6, zb6⟩ := blk (show u4.heap[w.heap.size]? = some (.cells #[.pointer (some ⟨g, 0, none⟩)] 159) from hbb4)
      obtain ⟨cr6, fr6, zr6⟩ := blk hrr4
      obtain ⟨cc6, fc6, zc6⟩ := blk (show u4.heap[w.heap.size + 1 + 1]? = _ from hcc4)
      have s1 := hl1.size
      have s2 := hl2.size
      have s3 := hl3.size
      have s4 := hl4.size
      by_cases t9 : q4 bs < s.size
      · have hd : decide (q4 bs < s.size) = true := by simpa using t9
        have hd2 : decide ((q4 bs : Int) < (s.size : Int)) = true := by simp; omega
        go_wp2_with fail
        go_quiet (fail)
        go_wp2_with fail
        exact ⟨rfl, .inr ⟨q4 bs, by rw [hF5.out, if_pos (by omega)], rfl, (by repeat (first | with_reducible exact Below.refl _ _ | with_reducible assumption | (with_reducible refine Below.drew ?_) | (with_reducible refine Below.alloc ?_ ?_ _; rotate_left; (first | omega | (simp <;> omega))) | (with_reducible refine Below.setCell ?_ ?_ _; rotate_left; (first | omega | (simp <;> omega))) | (with_reducible refine below_drewN ?_ _) | (refine Below.trans ?_ (Below.mono (by with_reducible assumption) (by first | omega | (simp <;> omega))))))⟩⟩
      have hd : decide (q4 bs < s.size) = false := by simpa using t9
      have hd2 : decide ((q4 bs : Int) < (s.size : Int)) = false := by simp; omega
      have hR := Lib.hid (show decFault bs = -1 by rw [hF5.out, if_neg (by omega)])
      have hz6 : u4.heap[w.heap.size + 1]? = _ := (hkk4 _ ⟨by omega, by omega, by omega⟩).trans ((hkk3 _ ⟨by omega, by omega, by omega⟩).trans ((hkk2 _ ⟨by omega, by omega, by omega⟩).trans ((hkk1 _ ⟨by omega, by omega, by omega⟩).trans hz2)))
      obtain ⟨cz6, fz6, zz6⟩ := blk hz6
      have o1 := own_keep hown1 fun b hb => by
        have := own_lt hown1 b hb
        exact (hkk4 b ⟨by omega, by omega, by omega⟩).trans ((hkk3 b ⟨by omega, by omega, by omega⟩).trans (hkk2 b ⟨by omega, by omega, by omega⟩))
      have o2 := own_keep hown2 fun b hb => by
        have := own_lt hown2 b hb
        exact (hkk4 b ⟨by omega, by omega, by omega⟩).trans (hkk3 b ⟨by omega, by omega, by omega⟩)
      have o3 := own_keep hown3 fun b hb => by
        have := own_lt hown3 b hb
        exact (hkk4 b ⟨by omega, by omega, by omega⟩)
      have S1 := Sl.mono (J := Rng (w.heap.size + 3) u4.heap.size) (sl_of_own_rng (base := wr.heap.size) (n := cntAt bs 6) (f := TSlot.cells) (hf := fun _ => rfl) (xs := slotsAt bs (6 + 1) (cntAt bs 6)) (by simp [slotsAt]) o1) (by intro b hb; simp only [Rng] at hb ⊢; omega)
      have S2 := Sl.mono (J := Rng (w.heap.size + 3) u4.heap.size) (sl_of_own_rng (base := u1.heap.size) (n := cntAt bs (q1 bs)) (f := fun n => [Value.int .i64 n]) (hf := fun _ => rfl) (xs := ownersAt bs (q1 bs + 1) (cntAt bs (q1 bs))) (by simp [ownersAt]) o2) (by intro b hb; simp only [Rng] at hb ⊢; omega)
      have S3 := Sl.mono (J := Rng (w.heap.size + 3) u4.heap.size) (sl_of_own_rng (base := u2.heap.size) (n := cntAt bs (q2 bs)) (f := TChan.cells) (hf := fun _ => rfl) (xs := chansAt bs (q2 bs + 1) (cntAt bs (q2 bs))) (by simp [chansAt]) o3) (by intro b hb; simp only [Rng] at hb ⊢; omega)
      have S4 := Sl.mono (J := Rng (w.heap.size + 3) u4.heap.size) (sl_of_own_rng (base := u3.heap.size) (n := cntAt bs (q3 bs)) (f := TTask.cells) (hf := fun _ => rfl) (xs := tasksAt bs (q3 bs + 1) (cntAt bs (q3 bs))) (by simp [tasksAt]) hown4) (by intro b hb; simp only [Rng] at hb ⊢; omega)
      have hAt : TCfg.At (Rng (w.heap.size + 3) u4.heap.size) u4 (decCfg bs) ⟨A1, n1, A2, n2, A3, n3, A4, n4⟩ := ⟨S1, S2, S3, S4⟩
      have l1 : (decCfg bs).slots.length = cntAt bs 6 := by simp [decCfg, slotsAt]
      have l2 : (decCfg bs).owners.length = cntAt bs (q1 bs) := by simp [decCfg, ownersAt]
      have l3 : (decCfg bs).chans.length = cntAt bs (q2 bs) := by simp [decCfg, chansAt]
      have l4 : (decCfg bs).tasks.length = cntAt bs (q3 bs) := by simp [decCfg, tasksAt]
      have L1 := Lib.hid l1
      have L2 := Lib.hid l2
      have L3 := Lib.hid l3
      have L4 := Lib.hid l4
      clear l1 l2 l3 l4 S1 S2 S3 S4 o1 o2 o3 hown1 hown2 hown3 hown4 hkk1 hkk2 hkk3 hkk4 x1 x2 x3 y1 y2 y3 z1 z2 z3 hG1 hG2 hG3 hG4
      go_wp2_with fail
      go_quiet (fail)
      go_wp2_with fail
      refine bodyPost_ret (v := .agg #[.int .i64 (nth bs 1), .int .i64 (nth bs 2), .int .i64 (nth bs 3), .int .i64 (nth bs 4), .int .i64 (nth bs 5), .slice A1 (cntAt bs 6) n1, .slice A2 (cntAt bs (q1 bs)) n2, .slice A3 (cntAt bs (q2 bs)) n3, .slice A4 (cntAt bs (q3 bs)) n4]) (by simp [results, Try.results119, go_sem, *]) rfl ?_
      refine .inl ⟨hR.out, ⟨A1, n1, A2, n2, A3, n3, A4, n4⟩, ?_, ?_, (by repeat (first | with_reducible exact Below.refl _ _ | with_reducible assumption | (with_reducible refine Below.drew ?_) | (with_reducible refine Below.alloc ?_ ?_ _; rotate_left; (first | omega | (simp <;> omega))) | (with_reducible refine Below.setCell ?_ ?_ _; rotate_left; (first | omega | (simp <;> omega))) | (with_reducible refine below_drewN ?_ _) | (refine Below.trans ?_ (Below.mono (by with_reducible assumption) (by first | omega | (simp <;> omega))))))⟩
      · dsimp only
        rw [L1.out, L2.out, L3.out, L4.out]
        rfl
      · refine (hAt.keepI (by repeat (first | with_reducible exact KeepI.refl _ _ | with_reducible assumption | (with_reducible refine KeepI.drew ?_) | (with_reducible refine KeepI.drewN ?_ _) | ((with_reducible refine KeepI.alloc ?_ ?_ _); rotate_left; (intro kkI hkI; simp only [Low, Rng, LoR] at hkI; first | omega | (simp <;> omega) | (rcases hkI with hkI | hkI <;> first | omega | (simp <;> omega)))) | ((with_reducible refine KeepI.setCell ?_ ?_ _); rotate_left; (intro hkI; simp only [Low, Rng, LoR] at hkI; first | omega | (simp at hkI <;> omega))) | (refine KeepI.call ?_ (by with_reducible assumption) (by (intro kkI hkI; simp only [Low, Rng, LoR] at hkI; first | omega | (simp <;> omega) | (rcases hkI with hkI | hkI <;> first | omega | (simp <;> omega)))))))).mono ?_
        intro b hb
        simp only [Rng] at hb ⊢
        simp
        omega
end Go.Proofs.Ytinlmkhlgclbfaa
