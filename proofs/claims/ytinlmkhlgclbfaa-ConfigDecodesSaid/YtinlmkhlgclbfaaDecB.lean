/-
  DecB: contracts of config.slot and of the reader's many.
-/
import Derived.Test.YtinlmkhlgclbfaaDecA
namespace Go.Proofs.Ytinlmkhlgclbfaa
open Go.RowKit
set_option maxRecDepth 100000
set_option maxHeartbeats 1000000

theorem readerSlot (s : ByteArray) (g p : Nat) (w : World) (hg : Rd g w s p) (hp : p + 2 < s.size) (hs : s.size ≤ 1000) :
    Calls Try.prog 134 #[.pointer (some ⟨g, 0, none⟩)] w fun en w' => en = .returned (.agg #[.int .i64 (slotAt (bytesOf s) p).dom, .int .i64 (slotAt (bytesOf s) p).len]) ∧ Rd g w' s (p + 3) ∧ WrKeep g none w w' := by
  have zg := (blk hg).2.2
  have hA : ∀ o, Rd g (w.alloc o) s p := fun o => (heap_alloc_old _ _ zg).trans hg
  go_enter Try.func134, Try.ntmps134
  go_wp2_with fail
  go_at_call 131
  refine (readerOne s g p _ (hA _) (by omega) hs).mono ?_
  rintro e w1 ⟨rfl, hg1, hk1⟩
  have z1 := hk1.below.size
  simp at z1
  have hr : w1.heap[w.heap.size]? = some (.cells #[.int .i64 0, .int .i64 0] 121) := (hk1.block _ (by simp) (by omega) (by simp)).trans (heapAt _ _ _ rfl)
  obtain ⟨cr, fr, zr⟩ := blk hr
  have zg1 := (blk hg1).2.2
  go_wp2_with fail
  go_at_call 138
  refine (readerTwo s g (p + 1) _ ((heap_alloc_old _ _ zg1).trans hg1) (by omega) hs).mono ?_
  rintro e w2 ⟨rfl, hg2, hk2⟩
  have z2 := hk2.below.size
  simp at z2
  have hr2 : w2.heap[w.heap.size]? = some (.cells #[.int .i64 0, .int .i64 0] 121) := (hk2.block _ (by simp; omega) (by omega) (by simp)).trans ((heap_alloc_old _ _ zr).trans hr)
  have hx2 : w2.heap[w1.heap.size]? = some (.cells #[.int .i64 (nth (bytesOf s) p), .int .i64 0] 121) := (hk2.block _ (by simp) (by omega) (by simp)).trans (heapAt _ _ _ rfl)
  obtain ⟨cr2, fr2, zr2⟩ := blk hr2
  obtain ⟨cx2, fx2, zx2⟩ := blk hx2
  clear cr fr
  go_wp2_with fail
  refine bodyPost_ret (v := .agg #[.int .i64 (nth (bytesOf s) p), .int .i64 (twoB (bytesOf s) (p + 1))]) (by simp [results, Try.results134, go_sem, *]) rfl ?_
  refine ⟨rfl, ?_, ?_, fun b hb hgb _ => ?_⟩
  · unfold Rd
    (repeat (first | with_reducible exact heap_set2 (by with_reducible assumption) | with_reducible exact heap_set2 (heapAt _ _ _ rfl) | with_reducible exact heap_set1 (by with_reducible assumption) | with_reducible exact heap_set1 (heapAt _ _ _ rfl) | with_reducible assumption | (with_reducible refine heapAt _ _ _ ?_; first | rfl | (first | omega | (simp <;> omega))) | (with_reducible refine heap_drew ?_) | (with_reducible refine heap_drewN ?_) | (with_reducible refine (heap_alloc_old _ _ ?_).trans ?_; (first | omega | (simp <;> omega))) | (with_reducible refine heap_set_far ?_ ?_; rotate_left; (first | omega | (simp <;> omega)))))
    exact hg2
  · have q1 := hk1.below
    have q2 := hk2.below
    (repeat (first | with_reducible exact Below.refl _ _ | with_reducible assumption | (with_reducible refine Below.drew ?_) | (with_reducible refine Below.alloc ?_ ?_ _; rotate_left; (first | omega | (simp <;> omega))) | (with_reducible refine Below.setCell ?_ ?_ _; rotate_left; (first | omega | (simp <;> omega))) | (with_reducible refine below_drewN ?_ _) | (refine Below.trans ?_ (Below.mono (by with_reducible assumption) (by first | omega | (simp <;> omega))))))
  · have q2 := (hk2.block b (by simp; omega) hgb (by simp)).trans ((heap_alloc_old _ _ (by omega)).trans ((hk1.block b (by simp; omega) hgb (by simp)).trans (heap_alloc_old _ _ hb)))
    (repeat (first | with_reducible exact heap_set2 (by with_reducible assumption) | with_reducible exact heap_set2 (heapAt _ _ _ rfl) | with_reducible exact heap_set1 (by with_reducible assumption) | with_reducible exact heap_set1 (heapAt _ _ _ rfl) | with_reducible assumption | (with_reducible refine heapAt _ _ _ ?_; first | rfl | (first | omega | (simp <;> omega))) | (with_reducible refine heap_drew ?_) | (with_reducible refine heap_drewN ?_) | (with_reducible refine (heap_alloc_old _ _ ?_).trans ?_; (first | omega | (simp <;> omega))) | (with_reducible refine heap_set_far ?_ ?_; rotate_left; (first | omega | (simp <;> omega)))))

theorem readerSlotEnd (s : ByteArray) (g p : Nat) (w : World) (hg : Rd g w s p) (hp : s.size ≤ p + 2) (hs : p ≤ 800) (hs2 : s.size ≤ 1000) :
    Calls Try.prog 134 #[.pointer (some ⟨g, 0, none⟩)] w (Gives g s.size w) := by
  have zg := (blk hg).2.2
  have hA : ∀ o, Rd g (w.alloc o) s p := fun o => (heap_alloc_old _ _ zg).trans hg
  by_cases h : p < s.size
  · go_enter Try.func134, Try.ntmps134
    go_wp2_with fail
    go_at_call 131
    refine (readerOne s g p _ (hA _) h hs2).mono ?_
    rintro e w1 ⟨rfl, hg1, hk1⟩
    have zg1 := (blk hg1).2.2
    have q1 := hk1.below
    go_wp2_with fail
    go_at_call 138
    refine (readerTwoEnd s g (p + 1) _ ((heap_alloc_old _ _ zg1).trans hg1) (by omega) (by omega) hs2).mono ?_
    rintro e w2 ⟨rfl, hb2⟩
    exact ⟨rfl, rfl, (by repeat (first | with_reducible exact Below.refl _ _ | with_reducible assumption | (with_reducible refine Below.drew ?_) | (with_reducible refine Below.alloc ?_ ?_ _; rotate_left; (first | omega | (simp <;> omega))) | (with_reducible refine Below.setCell ?_ ?_ _; rotate_left; (first | omega | (simp <;> omega))) | (with_reducible refine below_drewN ?_ _) | (refine Below.trans ?_ (Below.mono (by with_reducible assumption) (by first | omega | (simp <;> omega))))))⟩
  · go_enter Try.func134, Try.ntmps134
    go_wp2_with fail
    go_at_call 131
    refine (readerOneEnd s g p _ (hA _) (by omega) (by omega)).mono ?_
    rintro e w2 ⟨rfl, hb2⟩
    exact ⟨rfl, rfl, (by repeat (first | with_reducible exact Below.refl _ _ | with_reducible assumption | (with_reducible refine Below.drew ?_) | (with_reducible refine Below.alloc ?_ ?_ _; rotate_left; (first | omega | (simp <;> omega))) | (with_reducible refine Below.setCell ?_ ?_ _; rotate_left; (first | omega | (simp <;> omega))) | (with_reducible refine below_drewN ?_ _) | (refine Below.trans ?_ (Below.mono (by with_reducible assumption) (by first | omega | (simp <;> omega))))))⟩

/-- what the function handed to many does at each turn: it goes on, or gives up -/
def Turns (f : FuncId) (cap : Array Value) (g n end_ : Nat) (Inv : Nat → World → Prop) (Bad : Prop) (w : World) : Prop :=
  ∀ i, i < n → ∀ W, Inv i W → Below g w W → Calls Try.prog f cap W fun en w' => (en = .returned (.tuple #[]) ∧ Inv (i + 1) w' ∧ Below g W w') ∨ (Gives g end_ W en w' ∧ Bad)

theorem readerMany (s : ByteArray) (g p most : Nat) (w : World) (hg : Rd g w s p) (hp : p < s.size) (hs : s.size ≤ 1000) (hm : most ≤ 100) (f : FuncId) (cap : Array Value) (Inv : Nat → World → Prop) (Bad : Prop)
    (he : Enters Try.prog f) (h0 : ∀ w', Rd g w' s (p + 1) → WrKeep g none w w' → Inv 0 w') (hn : cntAt (bytesOf s) p ≤ most) (hf : Turns f cap g (cntAt (bytesOf s) p) s.size Inv Bad w) :
    Calls Try.prog 132 #[.pointer (some ⟨g, 0, none⟩), .int .i64 most, .func (.func f) #[] cap] w
      fun en w' => (en = .returned (.tuple #[]) ∧ Inv (cntAt (bytesOf s) p) w' ∧ Below g w w') ∨ (Gives g s.size w en w' ∧ Bad) := by
  have hbd := bytesOf_bd hp
  have hc : nth (bytesOf s) p = (cntAt (bytesOf s) p : Nat) := by unfold cntAt; omega
  generalize cntAt (bytesOf s) p = N at *
  have HC := Lib.hid hc
  have hle : decide ((most : Int) < (N : Int)) = false := by simp; omega
  have hle2 : decide (most < N) = false := by simp; omega
  have hf := Lib.hid hf
  unfold Enters at he
  go_enter Try.func132, Try.ntmps132
  go_wp2_with fail
  go_at_call 131
  refine (readerOne s g p w hg hp hs).mono ?_
  rintro e w1 ⟨rfl, hg1, hk1⟩
  have hI := h0 w1 hg1 hk1
  have q1 := hk1.below
  rw [HC.out]
  clear h0 hc hg1
  go_wp2_with fail
  go_loopw [19] (fun iv wr => ∃ i : Nat, i ≤ N ∧ iv = .int .i64 i ∧ Hid (Inv i wr) ∧ Below g w wr) (fun iv _ => N - (intOf iv).toNat)
  case atStart => exact ⟨0, Nat.zero_le _, rfl, hI, q1⟩
  case round =>
    obtain ⟨i, hi, rfl, hI, hbr⟩ := hrel
    by_cases hlt : i < N
    · have hi1 : (i : Int) < N := by omega
      go_wp2_with (refine (hf.out i hlt wr hI.out hbr).mono ?_; rintro e w2 (⟨rfl, hI2, hb2⟩ | ⟨⟨rfl, hb2⟩, hbad⟩))
      · go_roundw
        case rel => exact ⟨i + 1, by omega, by go_num, hI2, hbr.trans hb2⟩
        case measure => simp [intOf]; omega
      · exact ⟨rfl, .inr ⟨⟨rfl, hbr.trans hb2⟩, hbad⟩⟩
    · obtain rfl : i = N := by omega
      go_wp2
      refine bodyPost_end (v := .tuple #[]) (by simp [results, Try.results132, go_sem, *]) rfl ?_
      exact .inl ⟨rfl, hI.out, hbr⟩

/-- many gives up: no count, or one that is too great -/
theorem readerManyEnd (s : ByteArray) (g p most : Nat) (w : World) (hg : Rd g w s p) (hp : s.size ≤ p) (hs : p ≤ 800) (f : Value) :
    Calls Try.prog 132 #[.pointer (some ⟨g, 0, none⟩), .int .i64 most, f] w (Gives g s.size w) := by
  go_enter Try.func132, Try.ntmps132
  go_wp2_with fail
  go_at_call 131
  refine (readerOneEnd s g p w hg hp (by omega)).mono ?_
  rintro e w1 ⟨rfl, hb1⟩
  exact ⟨rfl, rfl, hb1⟩
theorem readerManyBad (s : ByteArray) (g p most : Nat) (w : World) (hg : Rd g w s p) (hp : p < s.size) (hs : s.size ≤ 1000) (hn : most < cntAt (bytesOf s) p) (f : Value) :
    Calls Try.prog 132 #[.pointer (some ⟨g, 0, none⟩), .int .i64 most, f] w (Gives g p w) := by
  have hbd := bytesOf_bd hp
  have hc : nth (bytesOf s) p = (cntAt (bytesOf s) p : Nat) := by unfold cntAt; omega
  generalize cntAt (bytesOf s) p = N at *
  have HC := Lib.hid hc
  have hle : decide ((most : Int) < (N : Int)) = true := by simp; omega
  have hle2 : decide (most < N) = true := by simp; omega
  clear hc
  go_enter Try.func132, Try.ntmps132
  go_wp2_with fail
  go_at_call 131
  refine (readerOne s g p w hg hp hs).mono ?_
  rintro e w1 ⟨rfl, hg1, hk1⟩
  have q1 := hk1.below
  obtain ⟨cg, fg, zg⟩ := blk hg1
  rw [HC.out]
  go_wp2_with fail
  exact ⟨rfl, rfl, q1⟩
end Go.Proofs.Ytinlmkhlgclbfaa
