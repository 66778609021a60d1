/-
  DecC: contracts of the reader's four function literals.
-/
import Derived.Test.YtinlmkhlgclbfaaDecB
import Derived.Test.YtinlmkhlgclbfaaEncR
import Derived.RegionDies
namespace Go.Proofs.Ytinlmkhlgclbfaa
open Go.RowKit
set_option maxRecDepth 100000
set_option maxHeartbeats 1000000

theorem ownersAt_succ (bs : List Int) (p i : Nat) : ownersAt bs p (i + 1) = ownersAt bs p i ++ [nth bs (p + i)] := by
  unfold ownersAt; rw [List.range_succ, List.map_append]; rfl

/-- where the reader's boxes lie: its own block, the box of its pointer, the config; the rows behind N -/
structure Lay (g gb gc N : Nat) : Prop where
  a : g < gb
  b : gb < gc
  c : gc < N
/-- all between the reader's block and N, but for the config's block -/
def Mid (g gc N : Nat) : Nat → Prop := fun b => g < b ∧ b ≠ gc ∧ b < N
def Bx (g gb : Nat) (w : World) : Prop := w.heap[gb]? = some (.cells #[.pointer (some ⟨g, 0, none⟩)] 159)

def InvO (g gb gc N : Nat) (s : ByteArray) (p : Nat) (h0 h1 h2 h3 h4 v0 v2 v3 : Value) (W0 : World) (i : Nat) (W : World) : Prop :=
  ∃ A n, Rd g W s (p + i) ∧ Bx g gb W ∧ W.heap[gc]? = some (.cells #[h0, h1, h2, h3, h4, v0, .slice A i n, v2, v3] 63) ∧ W.ownsRow N 3 1 (.slice A i n) i (i64s (ownersAt (bytesOf s) p i)) ∧ KeepI (Mid g gc N) W0 W ∧ N ≤ W.heap.size

theorem turnO {g gb gc N : Nat} (L : Lay g gb gc N) {s : ByteArray} {p i : Nat} {h0 h1 h2 h3 h4 v0 v2 v3 : Value} {W0 w : World} (hi : i ≤ 100) (hp : p + i < s.size) (hs : s.size ≤ 1000) (hv : InvO g gb gc N s p h0 h1 h2 h3 h4 v0 v2 v3 W0 i w) :
    Calls Try.prog 135 #[.pointer (some ⟨gc, 0, none⟩), .pointer (some ⟨gb, 0, none⟩)] w fun en w' => en = .returned (.tuple #[]) ∧ InvO g gb gc N s p h0 h1 h2 h3 h4 v0 v2 v3 W0 (i + 1) w' ∧ Below g w w' := by
  obtain ⟨A, n, hr, hb, hc, hown, hk, hN⟩ := hv
  obtain ⟨La, Lb, Lc⟩ := L
  unfold Bx at hb
  obtain ⟨cb, fb, zb⟩ := blk hb
  obtain ⟨cc, fc, zc⟩ := blk hc
  have zg := (blk hr).2.2
  have n1 : (Value.slice A i n).ownBlock ≠ some gb := fun e => by have := (own_lt hown _ e).1; omega
  have n2 : (Value.slice A i n).ownBlock ≠ some gc := fun e => by have := (own_lt hown _ e).1; omega
  have n3 : (Value.slice A i n).ownBlock ≠ some g := fun e => by have := (own_lt hown _ e).1; omega
  have HR := Lib.hid (fun W (h : Rd g W s (p + i)) => readerOne s g (p + i) W h hp hs)
  have hE := Lib.hid (ownersAt_succ (bytesOf s) p i)
  go_enter Try.func135, Try.ntmps135
  go_wp2_with fail
  go_region_law
    (first | (go_simp; go_at_call 131; refine (HR.out _ (by (first | exact hr | exact heap_drewN hr | exact heap_drew hr))).mono ?_; rintro e w1 ⟨rfl, hr1, hk1⟩; unfold Rd at hr1; have zk1 := hk1.below.size; (try simp at zk1); have hown1 : w1.ownsRow N 3 1 (.slice A i n) i (i64s (ownersAt (bytesOf s) p i)) := own_keep hown (fun b' hb' => (hk1.block b' (by have := (own_lt hown _ hb').2; simpa using this) (fun e => n3 (e ▸ hb')) (by simp)).trans rfl); have hc1 := (hk1.block gc (by simpa using zc) (by omega) (by simp)).trans hc; obtain ⟨cc1, fc1, zc1⟩ := blk hc1; have hb1 := (hk1.block gb (by simpa using zb) (by omega) (by simp)).trans hb; obtain ⟨cb1, fb1, zb1⟩ := blk hb1) | (refine step_app ?_ (.tmp 3) (.tmp 6) _ ?_ (N) tyInt (.slice A i n) i (i64s (ownersAt (bytesOf s) p i)) ?_ ?_ (some ⟨w1.heap.size, 0, none⟩) 1 1 [.int .i64 (nth (bytesOf s) (p + i))] ?_ ?_ (one_one rfl) ?_ ?_ ?_ ?_; rfl; rfl; rfl; exact (by repeat (first | with_reducible exact hown1 | (with_reducible refine World.ownsRow.alloc ?_ _) | (with_reducible refine own_drew ?_) | (with_reducible refine own_drewN ?_ _))); rfl; exact (by first | exact src_new (by simp) rfl | exact src_new_drew (by simp) rfl); (first | (unfold maxLen; omega) | (simp only [maxLen]; omega)); (omega); (first | exact Nat.le_refl _ | exact Below.size (by assumption) | omega | (simp <;> omega)); intro A3 c3 w3 hown3 hg_w3 hat_w3; refine have_then (P := w3.heap[gc]? = some (.cells #[h0, h1, h2, h3, h4, v0, .slice A i n, v2, v3] 63)) ?_ (fun x_w3 => ?_); (focus (refine (hg_w3.block _ ?_ ?_).trans ?_; (first | omega | (simp <;> omega)); (first | exact Ne.symm (by assumption) | omega); (repeat (first | with_reducible exact heap_set2 (by with_reducible assumption) | with_reducible exact heap_set2 (heapAt _ _ _ rfl) | with_reducible exact heap_set1 (by with_reducible assumption) | with_reducible exact heap_set1 (heapAt _ _ _ rfl) | with_reducible assumption | (with_reducible refine heapAt _ _ _ ?_; first | rfl | (first | omega | (simp <;> omega))) | (with_reducible refine heap_drew ?_) | (with_reducible refine heap_drewN ?_) | (with_reducible refine (heap_alloc_old _ _ ?_).trans ?_; (first | omega | (simp <;> omega))) | (with_reducible refine heap_set_far ?_ ?_; rotate_left; (first | omega | (simp <;> omega))))); done)); obtain ⟨cx_w3, fx_w3, zx_w3⟩ := blk x_w3; refine have_then (P := w3.heap[gb]? = some (.cells #[.pointer (some ⟨g, 0, none⟩)] 159)) ?_ (fun y_w3 => ?_); (focus (refine (hg_w3.block _ ?_ ?_).trans ?_; (first | omega | (simp <;> omega)); (first | exact Ne.symm (by assumption) | omega); (repeat (first | with_reducible exact heap_set2 (by with_reducible assumption) | with_reducible exact heap_set2 (heapAt _ _ _ rfl) | with_reducible exact heap_set1 (by with_reducible assumption) | with_reducible exact heap_set1 (heapAt _ _ _ rfl) | with_reducible assumption | (with_reducible refine heapAt _ _ _ ?_; first | rfl | (first | omega | (simp <;> omega))) | (with_reducible refine heap_drew ?_) | (with_reducible refine heap_drewN ?_) | (with_reducible refine (heap_alloc_old _ _ ?_).trans ?_; (first | omega | (simp <;> omega))) | (with_reducible refine heap_set_far ?_ ?_; rotate_left; (first | omega | (simp <;> omega))))); done)); obtain ⟨cy_w3, fy_w3, zy_w3⟩ := blk y_w3; refine have_then (P := w3.heap[g]? = some (.cells #[.string s, .int .i64 ((p + i + 1 : Nat) : Int)] 161)) ?_ (fun r_w3 => ?_); (focus (refine (hg_w3.block _ ?_ ?_).trans ?_; (first | omega | (simp <;> omega)); (first | exact Ne.symm (by assumption) | omega); (repeat (first | with_reducible exact heap_set2 (by with_reducible assumption) | with_reducible exact heap_set2 (heapAt _ _ _ rfl) | with_reducible exact heap_set1 (by with_reducible assumption) | with_reducible exact heap_set1 (heapAt _ _ _ rfl) | with_reducible assumption | (with_reducible refine heapAt _ _ _ ?_; first | rfl | (first | omega | (simp <;> omega))) | (with_reducible refine heap_drew ?_) | (with_reducible refine heap_drewN ?_) | (with_reducible refine (heap_alloc_old _ _ ?_).trans ?_; (first | omega | (simp <;> omega))) | (with_reducible refine heap_set_far ?_ ?_; rotate_left; (first | omega | (simp <;> omega))))); done)); obtain ⟨cr_w3, fr_w3, zr_w3⟩ := blk r_w3))
  all_goals
    have z3 := hg_w3.size
    simp at z3
    have hne : (Value.slice A3 (i + 1) c3).ownBlock ≠ some gc := fun e => by have := (own_lt hown3 _ e).1; omega
    have q1 := hk1.below
    have q3 : Below g w w3 := Below.grown (w := _) (by (repeat (first | with_reducible exact Below.refl _ _ | with_reducible assumption | (with_reducible refine Below.drew ?_) | (with_reducible refine Below.alloc ?_ ?_ _; rotate_left; (first | omega | (simp <;> omega))) | (with_reducible refine Below.setCell ?_ ?_ _; rotate_left; (first | omega | (simp <;> omega))) | (with_reducible refine below_drewN ?_ _) | (refine Below.trans ?_ (Below.mono (by with_reducible assumption) (by first | omega | (simp <;> omega))))))) hg_w3 (by simp; omega) (fun k hk => by have := (own_lt hown _ hk).1; omega)
    go_wp2_with fail
    refine bodyPost_end (v := .tuple #[]) (by simp [results, Try.results135, go_sem, *]) rfl ?_
    refine ⟨rfl, ⟨A3, c3, ?_, ?_, ?_, ?_, ?_, ?_⟩, Below.setCell q3 (by simp; omega) _⟩
    · exact heap_set_far r_w3 (by simp; omega)
    · exact heap_set_far y_w3 (by simp; omega)
    · refine (heap_set_same x_w3).trans ?_
      simp
    · rw [hE.out, i64s_append]
      exact own_set_ne hown3 hne _
    · intro b' hb'
      have hb2 := hb'
      simp only [Mid] at hb2
      refine heap_set_far ((hg_w3.block b' (by simp; omega) (fun e => by have := (own_lt hown _ e.symm).1; omega)).trans ?_) (by simp; omega)
      have t := (hk1.block b' (by simp; omega) (by omega) (by simp)).trans ((show _ = w.heap[b']? from rfl).trans (hk b' hb'))
      (repeat (first | with_reducible exact heap_set2 (by with_reducible assumption) | with_reducible exact heap_set2 (heapAt _ _ _ rfl) | with_reducible exact heap_set1 (by with_reducible assumption) | with_reducible exact heap_set1 (heapAt _ _ _ rfl) | with_reducible assumption | (with_reducible refine heapAt _ _ _ ?_; first | rfl | (first | omega | (simp <;> omega))) | (with_reducible refine heap_drew ?_) | (with_reducible refine heap_drewN ?_) | (with_reducible refine (heap_alloc_old _ _ ?_).trans ?_; (first | omega | (simp <;> omega))) | (with_reducible refine heap_set_far ?_ ?_; rotate_left; (first | omega | (simp <;> omega)))))
    · simp; omega

theorem turnOEnd {g gb gc N : Nat} (L : Lay g gb gc N) {s : ByteArray} {p i : Nat} {h0 h1 h2 h3 h4 v0 v2 v3 : Value} {W0 w : World} (hi : i ≤ 100) (hp : s.size ≤ p + i) (hs : p ≤ 600) (hv : InvO g gb gc N s p h0 h1 h2 h3 h4 v0 v2 v3 W0 i w) :
    Calls Try.prog 135 #[.pointer (some ⟨gc, 0, none⟩), .pointer (some ⟨gb, 0, none⟩)] w (Gives g s.size w) := by
  obtain ⟨A, n, hr, hb, hc, hown, hk, hN⟩ := hv
  obtain ⟨La, Lb, Lc⟩ := L
  unfold Bx at hb
  obtain ⟨cb, fb, zb⟩ := blk hb
  obtain ⟨cc, fc, zc⟩ := blk hc
  have HR := Lib.hid (fun W (h : Rd g W s (p + i)) => readerOneEnd s g (p + i) W h hp (by omega))
  go_enter Try.func135, Try.ntmps135
  go_wp2_with fail
  go_region_dies
  all_goals
    go_at_call 131
    refine (HR.out _ (by (first | exact hr | exact heap_drewN hr | exact heap_drew hr))).mono ?_
    rintro e w1 ⟨rfl, hb1⟩
    exact ⟨rfl, rfl, (by repeat (first | with_reducible exact Below.refl _ _ | with_reducible assumption | (with_reducible refine Below.drew ?_) | (with_reducible refine Below.alloc ?_ ?_ _; rotate_left; (first | omega | (simp <;> omega))) | (with_reducible refine Below.setCell ?_ ?_ _; rotate_left; (first | omega | (simp <;> omega))) | (with_reducible refine below_drewN ?_ _) | (refine Below.trans ?_ (Below.mono (by with_reducible assumption) (by first | omega | (simp <;> omega))))))⟩

theorem tySlot : TyS Try.prog 59 121 (.agg #[.int .i64 0, .int .i64 0]) 2 16 := ⟨Try.underlying59, info_of (by kernel_rfl), rfl, by decide⟩
theorem tyChan : TyS Try.prog 60 123 (.agg #[.int .i64 0, .int .i64 0, .int .i64 0]) 3 24 := ⟨Try.underlying60, info_of (by kernel_rfl), rfl, by decide⟩
theorem tyTask : TyS Try.prog 61 108 (.agg #[.int .i64 0, .int .i64 0, .int .i64 0, .int .i64 0]) 4 32 := ⟨Try.underlying61, info_of (by kernel_rfl), rfl, by decide⟩
theorem slotsAt_succ (bs : List Int) (p i : Nat) : slotsAt bs p (i + 1) = slotsAt bs p i ++ [slotAt bs (p + 3 * i)] := by
  unfold slotsAt; rw [List.range_succ, List.map_append]; rfl
theorem chansAt_succ (bs : List Int) (p i : Nat) : chansAt bs p (i + 1) = chansAt bs p i ++ [chanAt bs (p + 3 * i)] := by
  unfold chansAt; rw [List.range_succ, List.map_append]; rfl
theorem tasksAt_succ (bs : List Int) (p i : Nat) : tasksAt bs p (i + 1) = tasksAt bs p i ++ [taskAt bs (p + 7 * i)] := by
  unfold tasksAt; rw [List.range_succ, List.map_append]; rfl

def InvS (g gb gc N : Nat) (s : ByteArray) (p : Nat) (h0 h1 h2 h3 h4 v1 v2 v3 : Value) (W0 : World) (i : Nat) (W : World) : Prop :=
  ∃ A n, Rd g W s (p + 3 * i) ∧ Bx g gb W ∧ W.heap[gc]? = some (.cells #[h0, h1, h2, h3, h4, .slice A i n, v1, v2, v3] 63) ∧ W.ownsRow N 121 2 (.slice A i n) i ((slotsAt (bytesOf s) p i).flatMap TSlot.cells) ∧ KeepI (Mid g gc N) W0 W ∧ N ≤ W.heap.size

theorem turnS {g gb gc N : Nat} (L : Lay g gb gc N) {s : ByteArray} {p i : Nat} {h0 h1 h2 h3 h4 v1 v2 v3 : Value} {W0 w : World} (hi : i ≤ 100) (hp : p + 3 * i + 2 < s.size) (hs : s.size ≤ 1000) (hv : InvS g gb gc N s p h0 h1 h2 h3 h4 v1 v2 v3 W0 i w) :
    Calls Try.prog 133 #[.pointer (some ⟨gc, 0, none⟩), .pointer (some ⟨gb, 0, none⟩)] w fun en w' => en = .returned (.tuple #[]) ∧ InvS g gb gc N s p h0 h1 h2 h3 h4 v1 v2 v3 W0 (i + 1) w' ∧ Below g w w' := by
  obtain ⟨A, n, hr, hb, hc, hown, hk, hN⟩ := hv
  obtain ⟨La, Lb, Lc⟩ := L
  unfold Bx at hb
  obtain ⟨cb, fb, zb⟩ := blk hb
  obtain ⟨cc, fc, zc⟩ := blk hc
  have zg := (blk hr).2.2
  have n1 : (Value.slice A i n).ownBlock ≠ some gb := fun e => by have := (own_lt hown _ e).1; omega
  have n2 : (Value.slice A i n).ownBlock ≠ some gc := fun e => by have := (own_lt hown _ e).1; omega
  have n3 : (Value.slice A i n).ownBlock ≠ some g := fun e => by have := (own_lt hown _ e).1; omega
  have HR := Lib.hid (fun W (h : Rd g W s (p + 3 * i)) => readerSlot s g (p + 3 * i) W h hp hs)
  have hE := Lib.hid (slotsAt_succ (bytesOf s) p i)
  go_enter Try.func133, Try.ntmps133
  go_wp2_with fail
  go_region_law
    (first | (go_simp; go_at_call 134; refine (HR.out _ (by (first | exact hr | exact heap_drewN hr | exact heap_drew hr))).mono ?_; rintro e w1 ⟨rfl, hr1, hk1⟩; unfold Rd at hr1; have zk1 := hk1.below.size; (try simp at zk1); have hown1 : w1.ownsRow N 121 2 (.slice A i n) i ((slotsAt (bytesOf s) p i).flatMap TSlot.cells) := own_keep hown (fun b' hb' => (hk1.block b' (by have := (own_lt hown _ hb').2; simpa using this) (fun e => n3 (e ▸ hb')) (by simp)).trans rfl); have hc1 := (hk1.block gc (by simpa using zc) (by omega) (by simp)).trans hc; obtain ⟨cc1, fc1, zc1⟩ := blk hc1; have hb1 := (hk1.block gb (by simpa using zb) (by omega) (by simp)).trans hb; obtain ⟨cb1, fb1, zb1⟩ := blk hb1) | (refine step_app ?_ (.tmp 3) (.tmp 6) _ ?_ (N) tySlot (.slice A i n) i ((slotsAt (bytesOf s) p i).flatMap TSlot.cells) ?_ ?_ (some ⟨w1.heap.size, 0, none⟩) 1 1 [.int .i64 (slotAt (bytesOf s) (p + 3 * i)).dom, .int .i64 (slotAt (bytesOf s) (p + 3 * i)).len] ?_ ?_ (one_slot [slotAt (bytesOf s) (p + 3 * i)]) ?_ ?_ ?_ ?_; rfl; rfl; rfl; exact (by repeat (first | with_reducible exact hown1 | (with_reducible refine World.ownsRow.alloc ?_ _) | (with_reducible refine own_drew ?_) | (with_reducible refine own_drewN ?_ _))); rfl; exact (by first | exact src_new (by simp) rfl | exact src_new_drew (by simp) rfl); (first | (unfold maxLen; omega) | (simp only [maxLen]; omega)); (omega); (first | exact Nat.le_refl _ | exact Below.size (by assumption) | omega | (simp <;> omega)); intro A3 c3 w3 hown3 hg_w3 hat_w3; refine have_then (P := w3.heap[gc]? = some (.cells #[h0, h1, h2, h3, h4, .slice A i n, v1, v2, v3] 63)) ?_ (fun x_w3 => ?_); (focus (refine (hg_w3.block _ ?_ ?_).trans ?_; (first | omega | (simp <;> omega)); (first | exact Ne.symm (by assumption) | omega); (repeat (first | with_reducible exact heap_set2 (by with_reducible assumption) | with_reducible exact heap_set2 (heapAt _ _ _ rfl) | with_reducible exact heap_set1 (by with_reducible assumption) | with_reducible exact heap_set1 (heapAt _ _ _ rfl) | with_reducible assumption | (with_reducible refine heapAt _ _ _ ?_; first | rfl | (first | omega | (simp <;> omega))) | (with_reducible refine heap_drew ?_) | (with_reducible refine heap_drewN ?_) | (with_reducible refine (heap_alloc_old _ _ ?_).trans ?_; (first | omega | (simp <;> omega))) | (with_reducible refine heap_set_far ?_ ?_; rotate_left; (first | omega | (simp <;> omega))))); done)); obtain ⟨cx_w3, fx_w3, zx_w3⟩ := blk x_w3; refine have_then (P := w3.heap[gb]? = some (.cells #[.pointer (some ⟨g, 0, none⟩)] 159)) ?_ (fun y_w3 => ?_); (focus (refine (hg_w3.block _ ?_ ?_).trans ?_; (first | omega | (simp <;> omega)); (first | exact Ne.symm (by assumption) | omega); (repeat (first | with_reducible exact heap_set2 (by with_reducible assumption) | with_reducible exact heap_set2 (heapAt _ _ _ rfl) | with_reducible exact heap_set1 (by with_reducible assumption) | with_reducible exact heap_set1 (heapAt _ _ _ rfl) | with_reducible assumption | (with_reducible refine heapAt _ _ _ ?_; first | rfl | (first | omega | (simp <;> omega))) | (with_reducible refine heap_drew ?_) | (with_reducible refine heap_drewN ?_) | (with_reducible refine (heap_alloc_old _ _ ?_).trans ?_; (first | omega | (simp <;> omega))) | (with_reducible refine heap_set_far ?_ ?_; rotate_left; (first | omega | (simp <;> omega))))); done)); obtain ⟨cy_w3, fy_w3, zy_w3⟩ := blk y_w3; refine have_then (P := w3.heap[g]? = some (.cells #[.string s, .int .i64 ((p + 3 * i + 3 : Nat) : Int)] 161)) ?_ (fun r_w3 => ?_); (focus (refine (hg_w3.block _ ?_ ?_).trans ?_; (first | omega | (simp <;> omega)); (first | exact Ne.symm (by assumption) | omega); (repeat (first | with_reducible exact heap_set2 (by with_reducible assumption) | with_reducible exact heap_set2 (heapAt _ _ _ rfl) | with_reducible exact heap_set1 (by with_reducible assumption) | with_reducible exact heap_set1 (heapAt _ _ _ rfl) | with_reducible assumption | (with_reducible refine heapAt _ _ _ ?_; first | rfl | (first | omega | (simp <;> omega))) | (with_reducible refine heap_drew ?_) | (with_reducible refine heap_drewN ?_) | (with_reducible refine (heap_alloc_old _ _ ?_).trans ?_; (first | omega | (simp <;> omega))) | (with_reducible refine heap_set_far ?_ ?_; rotate_left; (first | omega | (simp <;> omega))))); done)); obtain ⟨cr_w3, fr_w3, zr_w3⟩ := blk r_w3))
  all_goals
    have z3 := hg_w3.size
    simp at z3
    have hne : (Value.slice A3 (i + 1) c3).ownBlock ≠ some gc := fun e => by have := (own_lt hown3 _ e).1; omega
    have q1 := hk1.below
    have q3 : Below g w w3 := Below.grown (w := _) (by (repeat (first | with_reducible exact Below.refl _ _ | with_reducible assumption | (with_reducible refine Below.drew ?_) | (with_reducible refine Below.alloc ?_ ?_ _; rotate_left; (first | omega | (simp <;> omega))) | (with_reducible refine Below.setCell ?_ ?_ _; rotate_left; (first | omega | (simp <;> omega))) | (with_reducible refine below_drewN ?_ _) | (refine Below.trans ?_ (Below.mono (by with_reducible assumption) (by first | omega | (simp <;> omega))))))) hg_w3 (by simp; omega) (fun k hk => by have := (own_lt hown _ hk).1; omega)
    go_wp2_with fail
    refine bodyPost_end (v := .tuple #[]) (by simp [results, Try.results133, go_sem, *]) rfl ?_
    refine ⟨rfl, ⟨A3, c3, ?_, ?_, ?_, ?_, ?_, ?_⟩, Below.setCell q3 (by simp; omega) _⟩
    · exact heap_set_far r_w3 (by simp; omega)
    · exact heap_set_far y_w3 (by simp; omega)
    · refine (heap_set_same x_w3).trans ?_
      simp
    · rw [hE.out, List.flatMap_append]
      exact own_set_ne hown3 hne _
    · intro b' hb'
      have hb2 := hb'
      simp only [Mid] at hb2
      refine heap_set_far ((hg_w3.block b' (by simp; omega) (fun e => by have := (own_lt hown _ e.symm).1; omega)).trans ?_) (by simp; omega)
      have t := (hk1.block b' (by simp; omega) (by omega) (by simp)).trans ((show _ = w.heap[b']? from rfl).trans (hk b' hb'))
      (repeat (first | with_reducible exact heap_set2 (by with_reducible assumption) | with_reducible exact heap_set2 (heapAt _ _ _ rfl) | with_reducible exact heap_set1 (by with_reducible assumption) | with_reducible exact heap_set1 (heapAt _ _ _ rfl) | with_reducible assumption | (with_reducible refine heapAt _ _ _ ?_; first | rfl | (first | omega | (simp <;> omega))) | (with_reducible refine heap_drew ?_) | (with_reducible refine heap_drewN ?_) | (with_reducible refine (heap_alloc_old _ _ ?_).trans ?_; (first | omega | (simp <;> omega))) | (with_reducible refine heap_set_far ?_ ?_; rotate_left; (first | omega | (simp <;> omega)))))
    · simp; omega

theorem turnSEnd {g gb gc N : Nat} (L : Lay g gb gc N) {s : ByteArray} {p i : Nat} {h0 h1 h2 h3 h4 v1 v2 v3 : Value} {W0 w : World} (hi : i ≤ 100) (hp : s.size ≤ p + 3 * i + 2) (hs : p ≤ 400) (hs2 : s.size ≤ 1000) (hv : InvS g gb gc N s p h0 h1 h2 h3 h4 v1 v2 v3 W0 i w) :
    Calls Try.prog 133 #[.pointer (some ⟨gc, 0, none⟩), .pointer (some ⟨gb, 0, none⟩)] w (Gives g s.size w) := by
  obtain ⟨A, n, hr, hb, hc, hown, hk, hN⟩ := hv
  obtain ⟨La, Lb, Lc⟩ := L
  unfold Bx at hb
  obtain ⟨cb, fb, zb⟩ := blk hb
  obtain ⟨cc, fc, zc⟩ := blk hc
  have HR := Lib.hid (fun W (h : Rd g W s (p + 3 * i)) => readerSlotEnd s g (p + 3 * i) W h hp (by omega) hs2)
  go_enter Try.func133, Try.ntmps133
  go_wp2_with fail
  go_region_dies
  all_goals
    go_at_call 134
    refine (HR.out _ (by (first | exact hr | exact heap_drewN hr | exact heap_drew hr))).mono ?_
    rintro e w1 ⟨rfl, hb1⟩
    exact ⟨rfl, rfl, (by repeat (first | with_reducible exact Below.refl _ _ | with_reducible assumption | (with_reducible refine Below.drew ?_) | (with_reducible refine Below.alloc ?_ ?_ _; rotate_left; (first | omega | (simp <;> omega))) | (with_reducible refine Below.setCell ?_ ?_ _; rotate_left; (first | omega | (simp <;> omega))) | (with_reducible refine below_drewN ?_ _) | (refine Below.trans ?_ (Below.mono (by with_reducible assumption) (by first | omega | (simp <;> omega))))))⟩
end Go.Proofs.Ytinlmkhlgclbfaa
