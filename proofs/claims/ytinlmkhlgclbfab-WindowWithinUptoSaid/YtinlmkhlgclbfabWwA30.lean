/- JobDel -/
import Derived.Test.YtinlmkhlgclbfabWwA11
import Derived.Test.YtinlmkhlgclbfabWwA17
import Derived.Test.YtinlmkhlgclbfabWwA19
import Derived.Deep.RegionLaw
namespace Go.Proofs.Ytinlmkhlgclbfab
open Go.RowKit
set_option maxRecDepth 100000
set_option maxHeartbeats 4000000

/-- many cells of an owned row are stored to -/
theorem ownZ_setCells {E : TypeId} {size g n c : Nat} : ∀ (vs : List Value) (o : Nat) (w : World) (xs : List Value), ownsZ w E size (.slice (some ⟨g, 0, none⟩) n c) n xs → o + vs.length ≤ xs.length →
    ownsZ (w.setCells g o vs) E size (.slice (some ⟨g, 0, none⟩) n c) n (xs.take o ++ vs ++ xs.drop (o + vs.length))
  | [], o, w, xs, h, hl => by simpa [World.setCells] using h
  | v :: vs, o, w, xs, h, hl => by
    simp only [List.length_cons] at hl
    have h2 := ownZ_setCells vs (o + 1) _ _ (ownZ_set h (j := o) (by omega) v) (by simp; omega)
    have e1 : (xs.set o v).take (o + 1) = xs.take o ++ [v] := by
      rw [List.set_eq_take_append_cons_drop, if_pos (by omega), List.take_append, List.take_of_length_le (by rw [List.length_take]; omega), List.length_take, Nat.min_eq_left (by omega), Nat.add_sub_cancel_left]
      rfl
    have e2 : (xs.set o v).drop (o + 1 + vs.length) = xs.drop (o + (vs.length + 1)) := by
      rw [List.drop_set_of_lt (by omega)]
      congr 1
      omega
    rw [e1, e2] at h2
    simpa [World.setCells] using h2
/-- an owned row cut short -/
theorem ownZ_cut {w : World} {E : TypeId} {size g n c : Nat} {xs : List Value} (h : ownsZ w E size (.slice (some ⟨g, 0, none⟩) n c) n xs) (m : Nat) (hm : m ≤ n) (hp : 0 < n) : ownsZ w E size (.slice (some ⟨g, 0, none⟩) m c) m (xs.take (m * size)) := by
  rcases h with ⟨hl, h⟩ | ⟨h0, _, _⟩
  · rcases h with ⟨hv, _⟩ | ⟨g', cap, cur, hv, hb, hg, hn, hx, hcs, ht⟩
    · cases hv
    · injection hv with e1 e2 e3
      injection e1 with e1; injection e1 with e1
      subst e1; subst e3
      have hms : m * size ≤ n * size := Nat.mul_le_mul_right _ hm
      refine .inl ⟨by rw [List.length_take]; omega, .inr ⟨g, c, cur, rfl, hb, hg, by omega, hx, hcs, ?_⟩⟩
      rw [← ht, List.take_take, Nat.min_eq_left hms]
  · omega
theorem del_cells {T : Type} {k : Nat} {f : T → List Value} (hf : ∀ x, (f x).length = k) (xs : List T) (i : Nat) (hi : i < xs.length) (z r1 r2 : List Value) :
    ((((xs.flatMap f).take (i * k) ++ (xs.drop (i + 1)).flatMap f ++ r1).take ((xs.length - 1) * k) ++ z ++ r2)).take ((xs.length - 1) * k) = (xs.eraseIdx i).flatMap f := by
  have hl : (((xs.flatMap f).take (i * k)) ++ ((xs.drop (i + 1)).flatMap f)).length = (xs.length - 1) * k := by
    rw [flatMap_take hf, ← List.flatMap_append, flatMap_len hf, List.length_append, List.length_take, List.length_drop]
    congr 1
    omega
  rw [List.take_left' (l₁ := (xs.flatMap f).take (i * k) ++ (xs.drop (i + 1)).flatMap f) hl, List.append_assoc, List.take_left' hl]
  rw [flatMap_take hf, ← List.flatMap_append, List.eraseIdx_eq_take_drop_succ]
theorem setCells_heap (g : Nat) : ∀ (vs : List Value) (o : Nat) (w : World) {b : Nat}, b ≠ g → (w.setCells g o vs).heap[b]? = w.heap[b]?
  | [], _, _, _, _ => rfl
  | v :: vs, o, w, _, h => (setCells_heap g vs (o + 1) (w.setCell ⟨g, o, none⟩ v) h).trans (Below.heap_setCell _ _ _ _ h)
theorem setCells_size (g : Nat) : ∀ (vs : List Value) (o : Nat) (w : World), (w.setCells g o vs).heap.size = w.heap.size
  | [], _, _ => rfl
  | v :: vs, o, w => by rw [World.setCells, setCells_size g vs (o + 1)]; simp
theorem Below.setCells {B : Nat} {w : World} {g : Nat} (hg : B ≤ g) : ∀ (vs : List Value) (o : Nat) {w1 : World}, Below B w w1 → Below B w (w1.setCells g o vs)
  | [], _, _, h => h
  | v :: vs, o, _, h => Below.setCells hg vs (o + 1) (Below.setCell h hg v)

theorem jobDelete {g n c : Nat} {w : World} {js : List TJob} (hn : n = js.length) (hown : ownsZ w 110 6 (.slice (some ⟨g, 0, none⟩) n c) n (js.flatMap TJob.cells)) {k : Nat} (hk : k < js.length) :
    Calls Try.prog 153 #[.slice (some ⟨g, 0, none⟩) n c, .int .i64 k, .int .i64 (k + 1)] w fun e w' => e = .returned (.slice (some ⟨g, 0, none⟩) (n - 1) c) ∧
      ownsZ w' 110 6 (.slice (some ⟨g, 0, none⟩) (n - 1) c) (n - 1) ((js.eraseIdx k).flatMap TJob.cells) ∧ w'.heap.size = w.heap.size ∧ (∀ b, b ≠ g → w'.heap[b]? = w.heap[b]?) ∧ (∀ B, B ≤ g → Below B w w') := by
  obtain ⟨A0, c0, hv, hc, hm, _, hl, hcase⟩ := ownZ_form hown
  injection hv with e1 e2 e3
  subst e1; subst e3
  rcases hcase with ⟨h0, _, _⟩ | ⟨g', e1, hc0, hr, hg, hcs, ho⟩
  · omega
  injection e1 with e1; injection e1 with e1
  subst e1
  have hfz : ∀ o, w.frozen? ⟨g, o, none⟩ = false := by
    obtain ⟨_, ho⟩ := ho
    rcases ho with ⟨ho, _⟩ | ⟨g', cap, cur, hv, _, hh, _⟩
    · cases ho
    · injection hv with e1 _ _
      injection e1 with e1; injection e1 with e1
      subst e1
      exact (blk hh).2.1
  unfold maxLen at hm
  have hlen : (js.flatMap TJob.cells).length = n * 6 := hl
  have hsome : ∀ j, j < n * 6 → (w.cell? ⟨g, j, none⟩).isSome = true := fun j hj => by
    have := hcs j _ (List.getElem?_eq_getElem (by omega))
    rw [Nat.zero_add] at this
    rw [this]; rfl
  obtain ⟨j, hj⟩ : ∃ j, j = k + 1 := ⟨_, rfl⟩
  rw [show ((k : Int) + 1) = ((j : Nat) : Int) by omega]
  obtain ⟨news, hnews⟩ : ∃ news, news = (js.drop j).flatMap TJob.cells := ⟨_, rfl⟩
  have hnl : news.length = (n - j) * 6 := by rw [hnews, flatMap_len (k := 6) (fun _ => rfl), List.length_drop, hn]
  have hget : ∀ t u, news[t]? = some u → w.cell? ⟨g, j * 6 + t, none⟩ = some u := by
    intro t u hu
    rw [hnews, ← flatMap_drop (k := 6) (fun _ => rfl), List.getElem?_drop] at hu
    have := hcs _ u hu
    rwa [Nat.zero_add] at this
  obtain ⟨A, hA, hsrc⟩ : ∃ A : Addr, (if c = j then some (⟨g, 0, none⟩ : Addr) else some ⟨g, j * 6, none⟩) = some A ∧ RowKit.Hid (∀ t u, news[t]? = some u → w.drew.cell? (A.add t) = some u) := by
    by_cases h : c = j
    · refine ⟨⟨g, 0, none⟩, by simp [h], fun t u hu => ?_⟩
      have h0 : news.length = 0 := by rw [hnl]; omega
      rw [List.length_eq_zero_iff.1 h0] at hu
      simp at hu
    · exact ⟨⟨g, j * 6, none⟩, by simp [h], fun t u hu => by rw [Addr.add_lit]; exact hget t u hu⟩
  obtain ⟨W1, hW1⟩ : ∃ W1, W1 = w.drew.setCells g (k * 6) news := ⟨_, rfl⟩
  obtain ⟨i0, hi0, hz0, hz1, hz2⟩ := tyJob.info
  have ht := tyJob.ht
  have own1 : ownsZ W1 110 6 (.slice (some ⟨g, 0, none⟩) n c) n ((js.flatMap TJob.cells).take (k * 6) ++ news ++ (js.flatMap TJob.cells).drop (k * 6 + news.length)) := by
    rw [hW1]
    exact ownZ_setCells news (k * 6) _ _ (ownZ_keep hown fun _ _ => rfl) (by rw [hlen, hnl]; omega)
  have zlen : ((js.flatMap TJob.cells).take (k * 6) ++ news ++ (js.flatMap TJob.cells).drop (k * 6 + news.length)).length = n * 6 := by
    simp only [List.length_append, List.length_take, List.length_drop, hlen, hnl]
    omega
  replace zlen := Lib.hid zlen
  have s0 : RowKit.Hid (news.length = (n - j) * 6) := hnl
  have s1 : RowKit.Hid (∀ u ∈ news, u.oneCell' = true) := fun u hu => by rw [hnews] at hu; exact one_job _ u hu
  have s2 : RowKit.Hid (∀ j, j < news.length → (w.drew.cell? ⟨g, 0 + k * 6 + j, none⟩).isSome = true ∧ w.drew.frozen? ⟨g, 0 + k * 6 + j, none⟩ = false) := fun j hj =>
    ⟨hsome _ (by rw [hnl] at hj; omega), hfz _⟩
  have c1 : ∀ j, j < 6 → (W1.cell? ⟨g, (n - 1) * 6 + j, none⟩).isSome = true ∧ W1.frozen? ⟨g, (n - 1) * 6 + j, none⟩ = false := fun j hj => by
    obtain ⟨_, _, hv1, _, _, _, _, hcase1⟩ := ownZ_form own1
    injection hv1 with e1 e2 e3
    rw [← e1] at hcase1
    rcases hcase1 with ⟨h0, _, _⟩ | ⟨g', e4, _, _, _, hcs1, ho1⟩
    · omega
    injection e4 with e4; injection e4 with e4
    rw [← e4] at hcs1
    refine ⟨by
      have := hcs1 ((n - 1) * 6 + j) _ (List.getElem?_eq_getElem (by rw [zlen.out]; omega))
      rw [Nat.zero_add] at this
      rw [this]; rfl, ?_⟩
    obtain ⟨_, ho1⟩ := ho1
    rcases ho1 with ⟨ho, _⟩ | ⟨g', cap, cur, hv, _, hh, _⟩
    · cases ho
    · injection hv with e1 _ _
      injection e1 with e1; injection e1 with e1
      rw [e1]
      exact (blk hh).2.1 _
  have hcl : ∀ ty, (Builtin.clear_ #[40] ty #[.slice (some ⟨g, (k + (n - j)) * 6, none⟩) (n - (k + (n - j))) (c - (k + (n - j)))]).run Try.prog W1 = .ok (.tuple #[]) (W1.setCells g ((n - 1) * 6) [.int .i64 0, .int .i64 0, .int .i64 0, .int .i64 0, .bool false, .bool false]) := fun ty => by
    rw [show k + (n - j) = n - 1 by omega, show n - (n - 1) = 1 by omega]
    have hst := run_storeCells_cells (P := Try.prog) g ((n - 1) * 6) [.int .i64 0, .int .i64 0, .int .i64 0, .int .i64 0, .bool false, .bool false] 0 W1 (fun j hj => (c1 j hj).1) (fun j hj => (c1 j hj).2) (by intro v hv'; simp at hv'; rcases hv' with rfl | rfl <;> rfl)
    have hz' : ∀ w', (zeroValue 110).run Try.prog w' = .ok (.agg #[.int .i64 0, .int .i64 0, .int .i64 0, .int .i64 0, .bool false, .bool false]) w' := fun w' => by
      simp [zeroValue, typeInfo, hi0, hz0]
    have hzc : (Builtin.zeroCells (Value.agg #[.int .i64 0, .int .i64 0, .int .i64 0, .int .i64 0, .bool false, .bool false]).cells 1).toList = [.int .i64 0, .int .i64 0, .int .i64 0, .int .i64 0, .bool false, .bool false] := by first | kernel_rfl | (simp [Builtin.zeroCells, Value.cells]; rfl)
    simp only [Nat.add_zero] at hst
    simp [Builtin.clear_, run_underlying ht, hz', hzc, hst]
  have X : RowKit.Hid (ownsZ W1 110 6 (.slice (some ⟨g, 0, none⟩) n c) n ((js.flatMap TJob.cells).take (k * 6) ++ news ++ (js.flatMap TJob.cells).drop (k * 6 + news.length))) := own1
  have Y : RowKit.Hid (W1 = w.drew.setCells g (k * 6) news) := hW1
  have Z : RowKit.Hid (W1 = w.drew.setCells g (0 + k * 6) news) := by rw [Nat.zero_add]; exact hW1
  have hkc : k ≤ c := by omega
  have hkc1 : j ≤ c := by omega
  have hkn1 : j ≤ n := by omega
  have hne : ¬ k = j := by omega
  have hkj : k ≤ j := by omega
  have hj1 := Lib.hid hj
  clear hj own1 hW1 c1 hget hsome hfz hown hcs ho hr
  have hn1 := Lib.hid hn
  clear hn
  go_enter Try.func153, Try.ntmps153
  go_wp2_with fail
  go_region_law (refine step_append_room rfl (.tmp 22) (.tmp 25) 40 rfl 110 i0 6 ht hi0 hz1 g 0 k c (by simp [Act.eval, Act.put]) A (n - j) (c - j) news (by simp [Act.eval, Act.put]) s0.out hsrc.out s1.out (by omega) s2.out ?_; rw [← Z.out])
  go_wp2
  all_goals go_ret
  replace hj1 := hj1.out
  replace hn1 := hn1.out
  have hz6 := zlen.out
  refine ⟨by rw [show n - 1 = k + (n - j) by omega]; rfl, ?_, ?_, fun b hb => ?_, fun B hB => ?_⟩
  · have o1 := ownZ_cut (ownZ_setCells [.int .i64 0, .int .i64 0, .int .i64 0, .int .i64 0, .bool false, .bool false] ((n - 1) * 6) _ _ X.out (by rw [hz6]; simp only [List.length_cons, List.length_nil]; omega)) (n - 1) (by omega) (by omega)
    rw [hnews, hj1, hn1, del_cells (k := 6) (f := TJob.cells) (fun _ => rfl) js k hk, ← hn1] at o1
    exact o1
  · rw [setCells_size, Y.out, setCells_size]; rfl
  · rw [setCells_heap _ _ _ _ hb, Y.out, setCells_heap _ _ _ _ hb]; rfl
  · rw [Y.out]
    exact Below.setCells hB _ _ (Below.setCells hB _ _ (Below.drew (Below.refl _ _)))
end Go.Proofs.Ytinlmkhlgclbfab
