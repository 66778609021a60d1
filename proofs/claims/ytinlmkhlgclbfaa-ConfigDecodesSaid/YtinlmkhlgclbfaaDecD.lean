/-
  DecD: contracts of the reader's third and fourth function literal.
-/
import Derived.Test.YtinlmkhlgclbfaaDecC
namespace Go.Proofs.Ytinlmkhlgclbfaa
open Go.RowKit
set_option maxRecDepth 100000
set_option maxHeartbeats 2000000

def InvC (g gb gc N : Nat) (s : ByteArray) (p : Nat) (h0 h1 h2 h3 h4 v0 v1 v3 : Value) (W0 : World) (i : Nat) (W : World) : Prop :=
  ∃ A n, Rd g W s (p + 3 * i) ∧ Bx g gb W ∧ W.heap[gc]? = some (.cells #[h0, h1, h2, h3, h4, v0, v1, .slice A i n, v3] 63) ∧ W.ownsRow N 123 3 (.slice A i n) i ((chansAt (bytesOf s) p i).flatMap TChan.cells) ∧ KeepI (Mid g gc N) W0 W ∧ N ≤ W.heap.size

theorem turnC {g gb gc N : Nat} (L : Lay g gb gc N) {s : ByteArray} {p i : Nat} {h0 h1 h2 h3 h4 v0 v1 v3 : Value} {W0 w : World} (hi : i ≤ 100) (hp : p + 3 * i + 2 < s.size) (hs : s.size ≤ 1000) (hv : InvC g gb gc N s p h0 h1 h2 h3 h4 v0 v1 v3 W0 i w) :
    Calls Try.prog 136 #[.pointer (some ⟨gb, 0, none⟩), .pointer (some ⟨gc, 0, none⟩)] w fun en w' => en = .returned (.tuple #[]) ∧ InvC g gb gc N s p h0 h1 h2 h3 h4 v0 v1 v3 W0 (i + 1) w' ∧ Below g w w' := by
  obtain ⟨A, n, hr, hb, hc, hown, hk, hN⟩ := hv
  obtain ⟨La, Lb, Lc⟩ := L
  unfold Bx at hb
  obtain ⟨cb, fb, zb⟩ := blk hb
  obtain ⟨cc, fc, zc⟩ := blk hc
  have zg := (blk hr).2.2
  have n1 : (Value.slice A i n).ownBlock ≠ some gb := fun e => by have := (own_lt hown _ e).1; omega
  have n2 : (Value.slice A i n).ownBlock ≠ some gc := fun e => by have := (own_lt hown _ e).1; omega
  have n3 : (Value.slice A i n).ownBlock ≠ some g := fun e => by have := (own_lt hown _ e).1; omega
  have hrow := Lib.hid (fun b (e : (Value.slice A i n).ownBlock = some b) => own_lt hown b e)
  have hE := Lib.hid (chansAt_succ (bytesOf s) p i)
  have hEc := Lib.hid (show chanAt (bytesOf s) (p + 3 * i) = ⟨nth (bytesOf s) (p + 3 * i), nth (bytesOf s) (p + 3 * i + 1), nth (bytesOf s) (p + 3 * i + 2)⟩ from rfl)
  go_enter Try.func136, Try.ntmps136
  go_wp2_with fail
  go_at_call 131
  refine (readerOne s g (p + 3 * i) _ hr (by omega) hs).mono ?_
  rintro e w1 ⟨rfl, hr1, hk1⟩
  unfold Rd at hr1
  have q1 := hk1.below
  have k1 := q1.size
  have hb1 : w1.heap[gb]? = _ := (hk1.block gb zb (by omega) (by simp)).trans hb
  obtain ⟨cb1, fb1, zb1⟩ := blk hb1
  go_wp2_with fail
  go_at_call 131
  refine (readerOne s g (p + 3 * i + 1) _ (by unfold Rd; (repeat (first | with_reducible exact heap_set2 (by with_reducible assumption) | with_reducible exact heap_set2 (heapAt _ _ _ rfl) | with_reducible exact heap_set1 (by with_reducible assumption) | with_reducible exact heap_set1 (heapAt _ _ _ rfl) | with_reducible assumption | (with_reducible refine heapAt _ _ _ ?_; first | rfl | (first | omega | (simp <;> omega))) | (with_reducible refine heap_drew ?_) | (with_reducible refine heap_drewN ?_) | (with_reducible refine (heap_alloc_old _ _ ?_).trans ?_; (first | omega | (simp <;> omega))) | (with_reducible refine heap_set_far ?_ ?_; rotate_left; (first | omega | (simp <;> omega)))))) (by omega) hs).mono ?_
  rintro e w2 ⟨rfl, hr2, hk2⟩
  unfold Rd at hr2
  have q2 := hk2.below
  have k2 := q2.size
  simp at k2
  have hb2 : w2.heap[gb]? = some (.cells #[.pointer (some ⟨g, 0, none⟩)] 159) := (hk2.block gb (by simp; omega) (by omega) (by simp)).trans ((heap_alloc_old _ _ zb1).trans hb1)
  have hx2 : w2.heap[w1.heap.size]? = some (.cells #[.int .i64 (nth (bytesOf s) (p + 3 * i)), .int .i64 0, .int .i64 0] 123) := (hk2.block _ (by simp) (by omega) (by simp)).trans (heapAt _ _ _ rfl)
  obtain ⟨cb2, fb2, zb2⟩ := blk hb2
  obtain ⟨cx2, fx2, zx2⟩ := blk hx2
  have hx2' : (w2.setCell ⟨w1.heap.size, 1, none⟩ (.int .i64 (nth (bytesOf s) (p + 3 * i + 1)))).heap[w1.heap.size]? = some (.cells #[.int .i64 (nth (bytesOf s) (p + 3 * i)), .int .i64 (nth (bytesOf s) (p + 3 * i + 1)), .int .i64 0] 123) := (heap_set_same hx2).trans (by simp)
  go_wp2_with fail
  go_at_call 131
  refine (readerOne s g (p + 3 * i + 2) _ (by unfold Rd; exact heap_set_far hr2 (by simp; omega)) (by omega) hs).mono ?_
  rintro e w3 ⟨rfl, hr3, hk3⟩
  unfold Rd at hr3
  have q3 := hk3.below
  have k3 := q3.size
  simp at k3
  have hx3 : w3.heap[w1.heap.size]? = _ := (hk3.block _ (by simp; omega) (by omega) (by simp)).trans hx2'
  obtain ⟨cx3, fx3, zx3⟩ := blk hx3
  have old : ∀ b, b < w.heap.size → b ≠ g → w3.heap[b]? = w.heap[b]? := fun b hb' hg' =>
    (hk3.block b (by simp; omega) hg' (by simp)).trans ((heap_set_far rfl (by simp; omega)).trans ((hk2.block b (by simp; omega) hg' (by simp)).trans ((heap_alloc_old _ _ (by omega)).trans (hk1.block b hb' hg' (by simp)))))
  have hc3 := (old gc zc (by omega)).trans hc
  have hb3 := (old gb zb (by omega)).trans hb
  obtain ⟨cc3, fc3, zc3⟩ := blk hc3
  obtain ⟨cb3, fb3, zb3⟩ := blk hb3
  have hown3' : w3.ownsRow N 123 3 (.slice A i n) i ((chansAt (bytesOf s) p i).flatMap TChan.cells) := own_keep hown fun b hb' => old b (own_lt hown _ hb').2 (fun e => n3 (e ▸ hb'))
  have nx : (Value.slice A i n).ownBlock ≠ some w1.heap.size := fun e => by have := (own_lt hown _ e).2; omega
  have hown4 : (w3.setCell ⟨w1.heap.size, 2, none⟩ (.int .i64 (nth (bytesOf s) (p + 3 * i + 2)))).ownsRow N 123 3 (.slice A i n) i ((chansAt (bytesOf s) p i).flatMap TChan.cells) := own_set_ne hown3' nx _
  clear hown3' hx2 hx2' cx2 fx2 zx2 hb1 cb1 fb1 hb2 cb2 fb2
  go_wp2_with (first | (at_builtin; refine wpList_app ?_ (.tmp 13) (.tmp 15) _ ?_ (N) tyChan (.slice A i n) i ((chansAt (bytesOf s) p i).flatMap TChan.cells) ?_ ?_ (some ⟨w3.heap.size, 0, none⟩) 1 1 [.int .i64 (nth (bytesOf s) (p + 3 * i)), .int .i64 (nth (bytesOf s) (p + 3 * i + 1)), .int .i64 (nth (bytesOf s) (p + 3 * i + 2))] ?_ ?_ (one_chan [⟨nth (bytesOf s) (p + 3 * i), nth (bytesOf s) (p + 3 * i + 1), nth (bytesOf s) (p + 3 * i + 2)⟩]) ?_ ?_ ?_ ?_; rfl; rfl; rfl; exact (hown4.alloc _); rfl; exact (by first | exact src_new (by simp) rfl | exact src_new_drew (by simp) rfl); (first | (unfold maxLen; omega) | (simp only [maxLen]; omega)); (omega); (first | exact Nat.le_refl _ | exact Below.size (by assumption) | omega | (simp <;> omega)); intro A4 c4 w4 hown5 hg_w4 hat_w4; refine have_then (P := w4.heap[gc]? = some (.cells #[h0, h1, h2, h3, h4, v0, v1, .slice A i n, v3] 63)) ?_ (fun x_w4 => ?_); (focus (refine (hg_w4.block _ ?_ ?_).trans ?_; (first | omega | (simp <;> omega)); (first | exact Ne.symm (by assumption) | omega); (repeat (first | with_reducible exact heap_set2 (by with_reducible assumption) | with_reducible exact heap_set2 (heapAt _ _ _ rfl) | with_reducible exact heap_set1 (by with_reducible assumption) | with_reducible exact heap_set1 (heapAt _ _ _ rfl) | with_reducible assumption | (with_reducible refine heapAt _ _ _ ?_; first | rfl | (first | omega | (simp <;> omega))) | (with_reducible refine heap_drew ?_) | (with_reducible refine heap_drewN ?_) | (with_reducible refine (heap_alloc_old _ _ ?_).trans ?_; (first | omega | (simp <;> omega))) | (with_reducible refine heap_set_far ?_ ?_; rotate_left; (first | omega | (simp <;> omega))))); done)); obtain ⟨cx_w4, fx_w4, zx_w4⟩ := blk x_w4; refine have_then (P := w4.heap[gb]? = some (.cells #[.pointer (some ⟨g, 0, none⟩)] 159)) ?_ (fun y_w4 => ?_); (focus (refine (hg_w4.block _ ?_ ?_).trans ?_; (first | omega | (simp <;> omega)); (first | exact Ne.symm (by assumption) | omega); (repeat (first | with_reducible exact heap_set2 (by with_reducible assumption) | with_reducible exact heap_set2 (heapAt _ _ _ rfl) | with_reducible exact heap_set1 (by with_reducible assumption) | with_reducible exact heap_set1 (heapAt _ _ _ rfl) | with_reducible assumption | (with_reducible refine heapAt _ _ _ ?_; first | rfl | (first | omega | (simp <;> omega))) | (with_reducible refine heap_drew ?_) | (with_reducible refine heap_drewN ?_) | (with_reducible refine (heap_alloc_old _ _ ?_).trans ?_; (first | omega | (simp <;> omega))) | (with_reducible refine heap_set_far ?_ ?_; rotate_left; (first | omega | (simp <;> omega))))); done)); obtain ⟨cy_w4, fy_w4, zy_w4⟩ := blk y_w4; refine have_then (P := w4.heap[g]? = some (.cells #[.string s, .int .i64 ((p + 3 * i + 2 + 1 : Nat) : Int)] 161)) ?_ (fun r_w4 => ?_); (focus (refine (hg_w4.block _ ?_ ?_).trans ?_; (first | omega | (simp <;> omega)); (first | exact Ne.symm (by assumption) | omega); (repeat (first | with_reducible exact heap_set2 (by with_reducible assumption) | with_reducible exact heap_set2 (heapAt _ _ _ rfl) | with_reducible exact heap_set1 (by with_reducible assumption) | with_reducible exact heap_set1 (heapAt _ _ _ rfl) | with_reducible assumption | (with_reducible refine heapAt _ _ _ ?_; first | rfl | (first | omega | (simp <;> omega))) | (with_reducible refine heap_drew ?_) | (with_reducible refine heap_drewN ?_) | (with_reducible refine (heap_alloc_old _ _ ?_).trans ?_; (first | omega | (simp <;> omega))) | (with_reducible refine heap_set_far ?_ ?_; rotate_left; (first | omega | (simp <;> omega))))); done)); obtain ⟨cr_w4, fr_w4, zr_w4⟩ := blk r_w4))
  have z4 := hg_w4.size
  simp at z4
  have hne : (Value.slice A4 (i + 1) c4).ownBlock ≠ some gc := fun e => by have := (own_lt hown5 _ e).1; omega
  have q4 : Below g w w4 := Below.grown (w := _) (by (repeat (first | with_reducible exact Below.refl _ _ | with_reducible assumption | (with_reducible refine Below.drew ?_) | (with_reducible refine Below.alloc ?_ ?_ _; rotate_left; (first | omega | (simp <;> omega))) | (with_reducible refine Below.setCell ?_ ?_ _; rotate_left; (first | omega | (simp <;> omega))) | (with_reducible refine below_drewN ?_ _) | (refine Below.trans ?_ (Below.mono (by with_reducible assumption) (by first | omega | (simp <;> omega))))))) hg_w4 (by simp; omega) (fun k hk => by have := (hrow.out _ hk).1; omega)
  refine bodyPost_end (v := .tuple #[]) (by simp [results, Try.results136, go_sem, *]) rfl ?_
  refine ⟨rfl, ⟨A4, c4, ?_, ?_, ?_, ?_, ?_, ?_⟩, Below.setCell q4 (by simp; omega) _⟩
  · exact heap_set_far r_w4 (by simp; omega)
  · exact heap_set_far y_w4 (by simp; omega)
  · refine (heap_set_same x_w4).trans ?_
    simp
  · rw [hE.out, List.flatMap_append]
    exact own_set_ne hown5 hne _
  · intro b' hb'
    have hb2 := hb'
    simp only [Mid] at hb2
    refine heap_set_far ((hg_w4.block b' (by simp; omega) (fun e => by have := (hrow.out _ e.symm).1; omega)).trans ?_) (by simp; omega)
    have t := (old b' (by omega) (by omega)).trans (hk b' hb')
    (repeat (first | with_reducible exact heap_set2 (by with_reducible assumption) | with_reducible exact heap_set2 (heapAt _ _ _ rfl) | with_reducible exact heap_set1 (by with_reducible assumption) | with_reducible exact heap_set1 (heapAt _ _ _ rfl) | with_reducible assumption | (with_reducible refine heapAt _ _ _ ?_; first | rfl | (first | omega | (simp <;> omega))) | (with_reducible refine heap_drew ?_) | (with_reducible refine heap_drewN ?_) | (with_reducible refine (heap_alloc_old _ _ ?_).trans ?_; (first | omega | (simp <;> omega))) | (with_reducible refine heap_set_far ?_ ?_; rotate_left; (first | omega | (simp <;> omega)))))
  · simp; omega

theorem turnCEnd {g gb gc N : Nat} (L : Lay g gb gc N) {s : ByteArray} {p i : Nat} {h0 h1 h2 h3 h4 v0 v1 v3 : Value} {W0 w : World} (hi : i ≤ 100) (hp : s.size ≤ p + 3 * i + 2) (hs : p ≤ 400) (hs2 : s.size ≤ 1000) (hv : InvC g gb gc N s p h0 h1 h2 h3 h4 v0 v1 v3 W0 i w) :
    Calls Try.prog 136 #[.pointer (some ⟨gb, 0, none⟩), .pointer (some ⟨gc, 0, none⟩)] w (Gives g s.size w) := by
  obtain ⟨A, n, hr, hb, hc, hown, hk, hN⟩ := hv
  obtain ⟨La, Lb, Lc⟩ := L
  unfold Bx at hb
  obtain ⟨cb, fb, zb⟩ := blk hb
  have zg := (blk hr).2.2
  go_enter Try.func136, Try.ntmps136
  go_wp2_with fail
  go_at_call 131
  by_cases t0 : s.size ≤ p + 3 * i
  · refine (readerOneEnd s g (p + 3 * i) _ hr t0 (by omega)).mono ?_
    rintro e w1 ⟨rfl, hb1⟩
    exact ⟨rfl, rfl, (by repeat (first | with_reducible exact Below.refl _ _ | with_reducible assumption | (with_reducible refine Below.drew ?_) | (with_reducible refine Below.alloc ?_ ?_ _; rotate_left; (first | omega | (simp <;> omega))) | (with_reducible refine Below.setCell ?_ ?_ _; rotate_left; (first | omega | (simp <;> omega))) | (with_reducible refine below_drewN ?_ _) | (refine Below.trans ?_ (Below.mono (by with_reducible assumption) (by first | omega | (simp <;> omega))))))⟩
  refine (readerOne s g (p + 3 * i) _ hr (by omega) hs2).mono ?_
  rintro e w1 ⟨rfl, hr1, hk1⟩
  unfold Rd at hr1
  have q1 := hk1.below
  have k1 := q1.size
  have hb1 : w1.heap[gb]? = _ := (hk1.block gb zb (by omega) (by simp)).trans hb
  obtain ⟨cb1, fb1, zb1⟩ := blk hb1
  go_wp2_with fail
  go_at_call 131
  by_cases t1 : s.size ≤ p + 3 * i + 1
  · refine (readerOneEnd s g (p + 3 * i + 1) _ (by unfold Rd; (repeat (first | with_reducible exact heap_set2 (by with_reducible assumption) | with_reducible exact heap_set2 (heapAt _ _ _ rfl) | with_reducible exact heap_set1 (by with_reducible assumption) | with_reducible exact heap_set1 (heapAt _ _ _ rfl) | with_reducible assumption | (with_reducible refine heapAt _ _ _ ?_; first | rfl | (first | omega | (simp <;> omega))) | (with_reducible refine heap_drew ?_) | (with_reducible refine heap_drewN ?_) | (with_reducible refine (heap_alloc_old _ _ ?_).trans ?_; (first | omega | (simp <;> omega))) | (with_reducible refine heap_set_far ?_ ?_; rotate_left; (first | omega | (simp <;> omega)))))) t1 (by omega)).mono ?_
    rintro e w2 ⟨rfl, hb2⟩
    exact ⟨rfl, rfl, (by repeat (first | with_reducible exact Below.refl _ _ | with_reducible assumption | (with_reducible refine Below.drew ?_) | (with_reducible refine Below.alloc ?_ ?_ _; rotate_left; (first | omega | (simp <;> omega))) | (with_reducible refine Below.setCell ?_ ?_ _; rotate_left; (first | omega | (simp <;> omega))) | (with_reducible refine below_drewN ?_ _) | (refine Below.trans ?_ (Below.mono (by with_reducible assumption) (by first | omega | (simp <;> omega))))))⟩
  refine (readerOne s g (p + 3 * i + 1) _ (by unfold Rd; (repeat (first | with_reducible exact heap_set2 (by with_reducible assumption) | with_reducible exact heap_set2 (heapAt _ _ _ rfl) | with_reducible exact heap_set1 (by with_reducible assumption) | with_reducible exact heap_set1 (heapAt _ _ _ rfl) | with_reducible assumption | (with_reducible refine heapAt _ _ _ ?_; first | rfl | (first | omega | (simp <;> omega))) | (with_reducible refine heap_drew ?_) | (with_reducible refine heap_drewN ?_) | (with_reducible refine (heap_alloc_old _ _ ?_).trans ?_; (first | omega | (simp <;> omega))) | (with_reducible refine heap_set_far ?_ ?_; rotate_left; (first | omega | (simp <;> omega)))))) (by omega) hs2).mono ?_
  rintro e w2 ⟨rfl, hr2, hk2⟩
  unfold Rd at hr2
  have q2 := hk2.below
  have k2 := q2.size
  simp at k2
  have hb2 : w2.heap[gb]? = some (.cells #[.pointer (some ⟨g, 0, none⟩)] 159) := (hk2.block gb (by simp; omega) (by omega) (by simp)).trans ((heap_alloc_old _ _ zb1).trans hb1)
  have hx2 : w2.heap[w1.heap.size]? = some (.cells #[.int .i64 (nth (bytesOf s) (p + 3 * i)), .int .i64 0, .int .i64 0] 123) := (hk2.block _ (by simp) (by omega) (by simp)).trans (heapAt _ _ _ rfl)
  obtain ⟨cb2, fb2, zb2⟩ := blk hb2
  obtain ⟨cx2, fx2, zx2⟩ := blk hx2
  go_wp2_with fail
  go_at_call 131
  refine (readerOneEnd s g (p + 3 * i + 2) _ (by unfold Rd; exact heap_set_far hr2 (by simp; omega)) hp (by omega)).mono ?_
  rintro e w3 ⟨rfl, hb3⟩
  exact ⟨rfl, rfl, (by repeat (first | with_reducible exact Below.refl _ _ | with_reducible assumption | (with_reducible refine Below.drew ?_) | (with_reducible refine Below.alloc ?_ ?_ _; rotate_left; (first | omega | (simp <;> omega))) | (with_reducible refine Below.setCell ?_ ?_ _; rotate_left; (first | omega | (simp <;> omega))) | (with_reducible refine below_drewN ?_ _) | (refine Below.trans ?_ (Below.mono (by with_reducible assumption) (by first | omega | (simp <;> omega))))))⟩

def InvT (g gb gc N : Nat) (s : ByteArray) (p : Nat) (h0 h1 h2 h3 h4 v0 v1 v2 : Value) (W0 : World) (i : Nat) (W : World) : Prop :=
  ∃ A n, Rd g W s (p + 7 * i) ∧ Bx g gb W ∧ W.heap[gc]? = some (.cells #[h0, h1, h2, h3, h4, v0, v1, v2, .slice A i n] 63) ∧ W.ownsRow N 108 4 (.slice A i n) i ((tasksAt (bytesOf s) p i).flatMap TTask.cells) ∧ KeepI (Mid g gc N) W0 W ∧ N ≤ W.heap.size

theorem turnT {g gb gc N : Nat} (L : Lay g gb gc N) {s : ByteArray} {p i : Nat} {h0 h1 h2 h3 h4 v0 v1 v2 : Value} {W0 w : World} (hi : i ≤ 100) (hp : p + 7 * i + 6 < s.size) (hs : s.size ≤ 1000) (hv : InvT g gb gc N s p h0 h1 h2 h3 h4 v0 v1 v2 W0 i w) :
    Calls Try.prog 137 #[.pointer (some ⟨gb, 0, none⟩), .pointer (some ⟨gc, 0, none⟩)] w fun en w' => en = .returned (.tuple #[]) ∧ InvT g gb gc N s p h0 h1 h2 h3 h4 v0 v1 v2 W0 (i + 1) w' ∧ Below g w w' := by
  obtain ⟨A, n, hr, hb, hc, hown, hk, hN⟩ := hv
  obtain ⟨La, Lb, Lc⟩ := L
  unfold Bx at hb
  obtain ⟨cb, fb, zb⟩ := blk hb
  obtain ⟨cc, fc, zc⟩ := blk hc
  have zg := (blk hr).2.2
  have n1 : (Value.slice A i n).ownBlock ≠ some gb := fun e => by have := (own_lt hown _ e).1; omega
  have n2 : (Value.slice A i n).ownBlock ≠ some gc := fun e => by have := (own_lt hown _ e).1; omega
  have n3 : (Value.slice A i n).ownBlock ≠ some g := fun e => by have := (own_lt hown _ e).1; omega
  have hrow := Lib.hid (fun b (e : (Value.slice A i n).ownBlock = some b) => own_lt hown b e)
  have hE := Lib.hid (tasksAt_succ (bytesOf s) p i)
  go_enter Try.func137, Try.ntmps137
  go_wp2_with fail
  go_at_call 131
  refine (readerOne s g (p + 7 * i) _ hr (by omega) hs).mono ?_
  rintro e w1 ⟨rfl, hr1, hk1⟩
  unfold Rd at hr1
  have q1 := hk1.below
  have k1 := q1.size
  have hb1 : w1.heap[gb]? = _ := (hk1.block gb zb (by omega) (by simp)).trans hb
  obtain ⟨cb1, fb1, zb1⟩ := blk hb1
  generalize hd0 : nth (bytesOf s) (p + 7 * i) = d0
  go_wp2_with fail
  go_at_call 138
  refine (readerTwo s g (p + 7 * i + 1) _ (by unfold Rd; (repeat (first | with_reducible exact heap_set2 (by with_reducible assumption) | with_reducible exact heap_set2 (heapAt _ _ _ rfl) | with_reducible exact heap_set1 (by with_reducible assumption) | with_reducible exact heap_set1 (heapAt _ _ _ rfl) | with_reducible assumption | (with_reducible refine heapAt _ _ _ ?_; first | rfl | (first | omega | (simp <;> omega))) | (with_reducible refine heap_drew ?_) | (with_reducible refine heap_drewN ?_) | (with_reducible refine (heap_alloc_old _ _ ?_).trans ?_; (first | omega | (simp <;> omega))) | (with_reducible refine heap_set_far ?_ ?_; rotate_left; (first | omega | (simp <;> omega)))))) (by omega) hs).mono ?_
  rintro e w2 ⟨rfl, hr2, hk2⟩
  unfold Rd at hr2
  have q2 := hk2.below
  have k2 := q2.size
  simp at k2
  have hb2 : w2.heap[gb]? = some (.cells #[.pointer (some ⟨g, 0, none⟩)] 159) := (hk2.block gb (by simp; omega) (by omega) (by simp)).trans ((heap_alloc_old _ _ zb1).trans hb1)
  have hx2 : w2.heap[w1.heap.size]? = some (.cells #[.int .i64 d0, .int .i64 0, .int .i64 0, .int .i64 0] 108) := (hk2.block _ (by simp) (by omega) (by simp)).trans (heapAt _ _ _ rfl)
  obtain ⟨cb2, fb2, zb2⟩ := blk hb2
  obtain ⟨cx2, fx2, zx2⟩ := blk hx2
  generalize hd1 : twoB (bytesOf s) (p + 7 * i + 1) = d1
  have hx2' : (w2.setCell ⟨w1.heap.size, 1, none⟩ (.int .i64 d1)).heap[w1.heap.size]? = some (.cells #[.int .i64 d0, .int .i64 d1, .int .i64 0, .int .i64 0] 108) := (heap_set_same hx2).trans (by simp)
  go_wp2_with fail
  go_at_call 138
  refine (readerTwo s g (p + 7 * i + 3) _ (by unfold Rd; exact heap_set_far hr2 (by simp; omega)) (by omega) hs).mono ?_
  rintro e w3 ⟨rfl, hr3, hk3⟩
  unfold Rd at hr3
  have q3 := hk3.below
  have k3 := q3.size
  simp at k3
  have hx3 : w3.heap[w1.heap.size]? = some (.cells #[.int .i64 d0, .int .i64 d1, .int .i64 0, .int .i64 0] 108) := (hk3.block _ (by simp; omega) (by omega) (by simp)).trans hx2'
  have hb3 : w3.heap[gb]? = some (.cells #[.pointer (some ⟨g, 0, none⟩)] 159) := (hk3.block gb (by simp; omega) (by omega) (by simp)).trans ((heap_set_far rfl (by simp; omega)).trans hb2)
  obtain ⟨cb3, fb3, zb3⟩ := blk hb3
  obtain ⟨cx3, fx3, zx3⟩ := blk hx3
  generalize hd2 : twoB (bytesOf s) (p + 7 * i + 3) = d2
  have hx3' : (w3.setCell ⟨w1.heap.size, 2, none⟩ (.int .i64 d2)).heap[w1.heap.size]? = some (.cells #[.int .i64 d0, .int .i64 d1, .int .i64 d2, .int .i64 0] 108) := (heap_set_same hx3).trans (by simp)
  go_wp2_with fail
  go_at_call 138
  refine (readerTwo s g (p + 7 * i + 5) _ (by unfold Rd; exact heap_set_far hr3 (by simp; omega)) (by omega) hs).mono ?_
  rintro e w4 ⟨rfl, hr4, hk4⟩
  unfold Rd at hr4
  have q4' := hk4.below
  have k4 := q4'.size
  simp at k4
  have hx4 : w4.heap[w1.heap.size]? = some (.cells #[.int .i64 d0, .int .i64 d1, .int .i64 d2, .int .i64 0] 108) := (hk4.block _ (by simp; omega) (by omega) (by simp)).trans hx3'
  obtain ⟨cx4, fx4, zx4⟩ := blk hx4
  generalize hd3 : twoB (bytesOf s) (p + 7 * i + 5) = d3
  have old : ∀ b, b < w.heap.size → b ≠ g → w4.heap[b]? = w.heap[b]? := fun b hb' hg' =>
    (hk4.block b (by simp; omega) hg' (by simp)).trans ((heap_set_far rfl (by simp; omega)).trans ((hk3.block b (by simp; omega) hg' (by simp)).trans ((heap_set_far rfl (by simp; omega)).trans ((hk2.block b (by simp; omega) hg' (by simp)).trans ((heap_alloc_old _ _ (by omega)).trans (hk1.block b hb' hg' (by simp)))))))
  have hc4 := (old gc zc (by omega)).trans hc
  have hb4 := (old gb zb (by omega)).trans hb
  obtain ⟨cc4, fc4, zc4⟩ := blk hc4
  obtain ⟨cb4, fb4, zb4⟩ := blk hb4
  have hown4' : w4.ownsRow N 108 4 (.slice A i n) i ((tasksAt (bytesOf s) p i).flatMap TTask.cells) := own_keep hown fun b hb' => old b (own_lt hown _ hb').2 (fun e => n3 (e ▸ hb'))
  have nx : (Value.slice A i n).ownBlock ≠ some w1.heap.size := fun e => by have := (own_lt hown _ e).2; omega
  have hown4 : (w4.setCell ⟨w1.heap.size, 3, none⟩ (.int .i64 d3)).ownsRow N 108 4 (.slice A i n) i ((tasksAt (bytesOf s) p i).flatMap TTask.cells) := own_set_ne hown4' nx _
  clear hown4' hx2 hx2' hx3 hx3' cx2 fx2 zx2 cx3 fx3 zx3 hb1 cb1 fb1 hb2 cb2 fb2 hb3 cb3 fb3
  have hD := Lib.hid (show taskAt (bytesOf s) (p + 7 * i) = ⟨d0, d1, d2, d3⟩ by unfold taskAt; rw [hd0, hd1, hd2, hd3])
  clear hd0 hd1 hd2 hd3
  go_wp2_with (first | (at_builtin; refine wpList_app ?_ (.tmp 16) (.tmp 18) _ ?_ (N) tyTask (.slice A i n) i ((tasksAt (bytesOf s) p i).flatMap TTask.cells) ?_ ?_ (some ⟨w4.heap.size, 0, none⟩) 1 1 [.int .i64 d0, .int .i64 d1, .int .i64 d2, .int .i64 d3] ?_ ?_ (one_task [⟨d0, d1, d2, d3⟩]) ?_ ?_ ?_ ?_; rfl; rfl; rfl; exact (hown4.alloc _); rfl; exact (by first | exact src_new (by simp) rfl | exact src_new_drew (by simp) rfl); (first | (unfold maxLen; omega) | (simp only [maxLen]; omega)); (omega); (first | exact Nat.le_refl _ | exact Below.size (by assumption) | omega | (simp <;> omega)); intro A4 c4 w5 hown5 hg_w5 hat_w5; refine have_then (P := w5.heap[gc]? = some (.cells #[h0, h1, h2, h3, h4, v0, v1, v2, .slice A i n] 63)) ?_ (fun x_w5 => ?_); (focus (refine (hg_w5.block _ ?_ ?_).trans ?_; (first | omega | (simp <;> omega)); (first | exact Ne.symm (by assumption) | omega); (repeat (first | with_reducible exact heap_set2 (by with_reducible assumption) | with_reducible exact heap_set2 (heapAt _ _ _ rfl) | with_reducible exact heap_set1 (by with_reducible assumption) | with_reducible exact heap_set1 (heapAt _ _ _ rfl) | with_reducible assumption | (with_reducible refine heapAt _ _ _ ?_; first | rfl | (first | omega | (simp <;> omega))) | (with_reducible refine heap_drew ?_) | (with_reducible refine heap_drewN ?_) | (with_reducible refine (heap_alloc_old _ _ ?_).trans ?_; (first | omega | (simp <;> omega))) | (with_reducible refine heap_set_far ?_ ?_; rotate_left; (first | omega | (simp <;> omega))))); done)); obtain ⟨cx_w5, fx_w5, zx_w5⟩ := blk x_w5; refine have_then (P := w5.heap[gb]? = some (.cells #[.pointer (some ⟨g, 0, none⟩)] 159)) ?_ (fun y_w5 => ?_); (focus (refine (hg_w5.block _ ?_ ?_).trans ?_; (first | omega | (simp <;> omega)); (first | exact Ne.symm (by assumption) | omega); (repeat (first | with_reducible exact heap_set2 (by with_reducible assumption) | with_reducible exact heap_set2 (heapAt _ _ _ rfl) | with_reducible exact heap_set1 (by with_reducible assumption) | with_reducible exact heap_set1 (heapAt _ _ _ rfl) | with_reducible assumption | (with_reducible refine heapAt _ _ _ ?_; first | rfl | (first | omega | (simp <;> omega))) | (with_reducible refine heap_drew ?_) | (with_reducible refine heap_drewN ?_) | (with_reducible refine (heap_alloc_old _ _ ?_).trans ?_; (first | omega | (simp <;> omega))) | (with_reducible refine heap_set_far ?_ ?_; rotate_left; (first | omega | (simp <;> omega))))); done)); obtain ⟨cy_w5, fy_w5, zy_w5⟩ := blk y_w5; refine have_then (P := w5.heap[g]? = some (.cells #[.string s, .int .i64 ((p + 7 * i + 5 + 2 : Nat) : Int)] 161)) ?_ (fun r_w5 => ?_); (focus (refine (hg_w5.block _ ?_ ?_).trans ?_; (first | omega | (simp <;> omega)); (first | exact Ne.symm (by assumption) | omega); (repeat (first | with_reducible exact heap_set2 (by with_reducible assumption) | with_reducible exact heap_set2 (heapAt _ _ _ rfl) | with_reducible exact heap_set1 (by with_reducible assumption) | with_reducible exact heap_set1 (heapAt _ _ _ rfl) | with_reducible assumption | (with_reducible refine heapAt _ _ _ ?_; first | rfl | (first | omega | (simp <;> omega))) | (with_reducible refine heap_drew ?_) | (with_reducible refine heap_drewN ?_) | (with_reducible refine (heap_alloc_old _ _ ?_).trans ?_; (first | omega | (simp <;> omega))) | (with_reducible refine heap_set_far ?_ ?_; rotate_left; (first | omega | (simp <;> omega))))); done)); obtain ⟨cr_w5, fr_w5, zr_w5⟩ := blk r_w5))
  have z4 := hg_w5.size
  simp at z4
  have hne : (Value.slice A4 (i + 1) c4).ownBlock ≠ some gc := fun e => by have := (own_lt hown5 _ e).1; omega
  have q4 : Below g w w5 := Below.grown (w := _) (by (repeat (first | with_reducible exact Below.refl _ _ | with_reducible assumption | (with_reducible refine Below.drew ?_) | (with_reducible refine Below.alloc ?_ ?_ _; rotate_left; (first | omega | (simp <;> omega))) | (with_reducible refine Below.setCell ?_ ?_ _; rotate_left; (first | omega | (simp <;> omega))) | (with_reducible refine below_drewN ?_ _) | (refine Below.trans ?_ (Below.mono (by with_reducible assumption) (by first | omega | (simp <;> omega))))))) hg_w5 (by simp; omega) (fun k hk => by have := (hrow.out _ hk).1; omega)
  refine bodyPost_end (v := .tuple #[]) (by simp [results, Try.results137, go_sem, *]) rfl ?_
  refine ⟨rfl, ⟨A4, c4, ?_, ?_, ?_, ?_, ?_, ?_⟩, Below.setCell q4 (by simp; omega) _⟩
  · exact heap_set_far r_w5 (by simp; omega)
  · exact heap_set_far y_w5 (by simp; omega)
  · refine (heap_set_same x_w5).trans ?_
    simp
  · rw [hE.out, List.flatMap_append, hD.out]
    exact own_set_ne hown5 hne _
  · intro b' hb'
    have hb2 := hb'
    simp only [Mid] at hb2
    refine heap_set_far ((hg_w5.block b' (by simp; omega) (fun e => by have := (hrow.out _ e.symm).1; omega)).trans ?_) (by simp; omega)
    have t := (old b' (by omega) (by omega)).trans (hk b' hb')
    (repeat (first | with_reducible exact heap_set2 (by with_reducible assumption) | with_reducible exact heap_set2 (heapAt _ _ _ rfl) | with_reducible exact heap_set1 (by with_reducible assumption) | with_reducible exact heap_set1 (heapAt _ _ _ rfl) | with_reducible assumption | (with_reducible refine heapAt _ _ _ ?_; first | rfl | (first | omega | (simp <;> omega))) | (with_reducible refine heap_drew ?_) | (with_reducible refine heap_drewN ?_) | (with_reducible refine (heap_alloc_old _ _ ?_).trans ?_; (first | omega | (simp <;> omega))) | (with_reducible refine heap_set_far ?_ ?_; rotate_left; (first | omega | (simp <;> omega)))))
  · simp; omega

theorem turnTEnd {g gb gc N : Nat} (L : Lay g gb gc N) {s : ByteArray} {p i : Nat} {h0 h1 h2 h3 h4 v0 v1 v2 : Value} {W0 w : World} (hi : i ≤ 40) (hp : s.size ≤ p + 7 * i + 6) (hs : p ≤ 400) (hs2 : s.size ≤ 1000) (hv : InvT g gb gc N s p h0 h1 h2 h3 h4 v0 v1 v2 W0 i w) :
    Calls Try.prog 137 #[.pointer (some ⟨gb, 0, none⟩), .pointer (some ⟨gc, 0, none⟩)] w (Gives g s.size w) := by
  obtain ⟨A, n, hr, hb, hc, hown, hk, hN⟩ := hv
  obtain ⟨La, Lb, Lc⟩ := L
  unfold Bx at hb
  obtain ⟨cb, fb, zb⟩ := blk hb
  have zg := (blk hr).2.2
  go_enter Try.func137, Try.ntmps137
  go_wp2_with fail
  go_at_call 131
  by_cases t0 : s.size ≤ p + 7 * i
  · refine (readerOneEnd s g (p + 7 * i) _ hr t0 (by omega)).mono ?_
    rintro e w1 ⟨rfl, hb1⟩
    exact ⟨rfl, rfl, (by repeat (first | with_reducible exact Below.refl _ _ | with_reducible assumption | (with_reducible refine Below.drew ?_) | (with_reducible refine Below.alloc ?_ ?_ _; rotate_left; (first | omega | (simp <;> omega))) | (with_reducible refine Below.setCell ?_ ?_ _; rotate_left; (first | omega | (simp <;> omega))) | (with_reducible refine below_drewN ?_ _) | (refine Below.trans ?_ (Below.mono (by with_reducible assumption) (by first | omega | (simp <;> omega))))))⟩
  refine (readerOne s g (p + 7 * i) _ hr (by omega) hs2).mono ?_
  rintro e w1 ⟨rfl, hr1, hk1⟩
  unfold Rd at hr1
  have q1 := hk1.below
  have k1 := q1.size
  have hb1 : w1.heap[gb]? = _ := (hk1.block gb zb (by omega) (by simp)).trans hb
  obtain ⟨cb1, fb1, zb1⟩ := blk hb1
  generalize hd0 : nth (bytesOf s) (p + 7 * i) = d0
  go_wp2_with fail
  go_at_call 138
  by_cases t1 : s.size ≤ p + 7 * i + 1 + 1
  · refine (readerTwoEnd s g (p + 7 * i + 1) _ (by unfold Rd; (repeat (first | with_reducible exact heap_set2 (by with_reducible assumption) | with_reducible exact heap_set2 (heapAt _ _ _ rfl) | with_reducible exact heap_set1 (by with_reducible assumption) | with_reducible exact heap_set1 (heapAt _ _ _ rfl) | with_reducible assumption | (with_reducible refine heapAt _ _ _ ?_; first | rfl | (first | omega | (simp <;> omega))) | (with_reducible refine heap_drew ?_) | (with_reducible refine heap_drewN ?_) | (with_reducible refine (heap_alloc_old _ _ ?_).trans ?_; (first | omega | (simp <;> omega))) | (with_reducible refine heap_set_far ?_ ?_; rotate_left; (first | omega | (simp <;> omega)))))) t1 (by omega) hs2).mono ?_
    rintro e w2 ⟨rfl, hb2⟩
    exact ⟨rfl, rfl, (by repeat (first | with_reducible exact Below.refl _ _ | with_reducible assumption | (with_reducible refine Below.drew ?_) | (with_reducible refine Below.alloc ?_ ?_ _; rotate_left; (first | omega | (simp <;> omega))) | (with_reducible refine Below.setCell ?_ ?_ _; rotate_left; (first | omega | (simp <;> omega))) | (with_reducible refine below_drewN ?_ _) | (refine Below.trans ?_ (Below.mono (by with_reducible assumption) (by first | omega | (simp <;> omega))))))⟩
  refine (readerTwo s g (p + 7 * i + 1) _ (by unfold Rd; (repeat (first | with_reducible exact heap_set2 (by with_reducible assumption) | with_reducible exact heap_set2 (heapAt _ _ _ rfl) | with_reducible exact heap_set1 (by with_reducible assumption) | with_reducible exact heap_set1 (heapAt _ _ _ rfl) | with_reducible assumption | (with_reducible refine heapAt _ _ _ ?_; first | rfl | (first | omega | (simp <;> omega))) | (with_reducible refine heap_drew ?_) | (with_reducible refine heap_drewN ?_) | (with_reducible refine (heap_alloc_old _ _ ?_).trans ?_; (first | omega | (simp <;> omega))) | (with_reducible refine heap_set_far ?_ ?_; rotate_left; (first | omega | (simp <;> omega)))))) (by omega) hs2).mono ?_
  rintro e w2 ⟨rfl, hr2, hk2⟩
  unfold Rd at hr2
  have q2 := hk2.below
  have k2 := q2.size
  simp at k2
  have hb2 : w2.heap[gb]? = some (.cells #[.pointer (some ⟨g, 0, none⟩)] 159) := (hk2.block gb (by simp; omega) (by omega) (by simp)).trans ((heap_alloc_old _ _ zb1).trans hb1)
  have hx2 : w2.heap[w1.heap.size]? = some (.cells #[.int .i64 d0, .int .i64 0, .int .i64 0, .int .i64 0] 108) := (hk2.block _ (by simp) (by omega) (by simp)).trans (heapAt _ _ _ rfl)
  obtain ⟨cb2, fb2, zb2⟩ := blk hb2
  obtain ⟨cx2, fx2, zx2⟩ := blk hx2
  generalize hd1 : twoB (bytesOf s) (p + 7 * i + 1) = d1
  have hx2' : (w2.setCell ⟨w1.heap.size, 1, none⟩ (.int .i64 d1)).heap[w1.heap.size]? = some (.cells #[.int .i64 d0, .int .i64 d1, .int .i64 0, .int .i64 0] 108) := (heap_set_same hx2).trans (by simp)
  go_wp2_with fail
  go_at_call 138
  by_cases t3 : s.size ≤ p + 7 * i + 3 + 1
  · refine (readerTwoEnd s g (p + 7 * i + 3) _ (by unfold Rd; exact heap_set_far hr2 (by simp; omega)) t3 (by omega) hs2).mono ?_
    rintro e w3 ⟨rfl, hb3⟩
    exact ⟨rfl, rfl, (by repeat (first | with_reducible exact Below.refl _ _ | with_reducible assumption | (with_reducible refine Below.drew ?_) | (with_reducible refine Below.alloc ?_ ?_ _; rotate_left; (first | omega | (simp <;> omega))) | (with_reducible refine Below.setCell ?_ ?_ _; rotate_left; (first | omega | (simp <;> omega))) | (with_reducible refine below_drewN ?_ _) | (refine Below.trans ?_ (Below.mono (by with_reducible assumption) (by first | omega | (simp <;> omega))))))⟩
  refine (readerTwo s g (p + 7 * i + 3) _ (by unfold Rd; exact heap_set_far hr2 (by simp; omega)) (by omega) hs2).mono ?_
  rintro e w3 ⟨rfl, hr3, hk3⟩
  unfold Rd at hr3
  have q3 := hk3.below
  have k3 := q3.size
  simp at k3
  have hx3 : w3.heap[w1.heap.size]? = some (.cells #[.int .i64 d0, .int .i64 d1, .int .i64 0, .int .i64 0] 108) := (hk3.block _ (by simp; omega) (by omega) (by simp)).trans hx2'
  have hb3 : w3.heap[gb]? = some (.cells #[.pointer (some ⟨g, 0, none⟩)] 159) := (hk3.block gb (by simp; omega) (by omega) (by simp)).trans ((heap_set_far rfl (by simp; omega)).trans hb2)
  obtain ⟨cb3, fb3, zb3⟩ := blk hb3
  obtain ⟨cx3, fx3, zx3⟩ := blk hx3
  generalize hd2 : twoB (bytesOf s) (p + 7 * i + 3) = d2
  have hx3' : (w3.setCell ⟨w1.heap.size, 2, none⟩ (.int .i64 d2)).heap[w1.heap.size]? = some (.cells #[.int .i64 d0, .int .i64 d1, .int .i64 d2, .int .i64 0] 108) := (heap_set_same hx3).trans (by simp)
  go_wp2_with fail
  go_at_call 138
  refine (readerTwoEnd s g (p + 7 * i + 5) _ (by unfold Rd; exact heap_set_far hr3 (by simp; omega)) (by omega) (by omega) hs2).mono ?_
  rintro e w4 ⟨rfl, hb4⟩
  exact ⟨rfl, rfl, (by repeat (first | with_reducible exact Below.refl _ _ | with_reducible assumption | (with_reducible refine Below.drew ?_) | (with_reducible refine Below.alloc ?_ ?_ _; rotate_left; (first | omega | (simp <;> omega))) | (with_reducible refine Below.setCell ?_ ?_ _; rotate_left; (first | omega | (simp <;> omega))) | (with_reducible refine below_drewN ?_ _) | (refine Below.trans ?_ (Below.mono (by with_reducible assumption) (by first | omega | (simp <;> omega))))))⟩
end Go.Proofs.Ytinlmkhlgclbfaa
