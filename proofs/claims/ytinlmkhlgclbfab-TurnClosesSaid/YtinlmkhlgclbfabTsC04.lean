/- MailH -/
import Derived.Test.YtinlmkhlgclbfabTsC03
import Derived.Deep.RegionLaw
namespace Go.Proofs.Ytinlmkhlgclbfab
open Go.RowKit
set_option maxRecDepth 100000
set_option maxHeartbeats 400000

/-- what Commit has made of the first k values -/
def cst (vs : List Int) (lost size : Int) (ys : List Int) (k : Nat) : List Int × Int := commitFold vs lost size (ys.take k)
theorem cst_succ (vs : List Int) (lost size : Int) (ys : List Int) (k : Nat) (h : k < ys.length) : cst vs lost size ys (k + 1) = commitStep size (cst vs lost size ys k) (nth ys k) := commitFold_succ vs lost size ys k h
theorem cst_lost (vs : List Int) (lost size : Int) (ys : List Int) (h0 : 0 ≤ lost) (k : Nat) : 0 ≤ (cst vs lost size ys k).2 := by
  unfold cst commitFold
  generalize ys.take k = l
  induction l generalizing vs lost with
  | nil => exact h0
  | cons y l ih =>
    rw [List.foldl_cons]
    unfold commitStep
    split
    · exact ih _ _ h0
    · split
      · exact ih _ _ (by simp; omega)
      · exact ih _ _ h0

theorem refCommitOf (vs ys : List Int) (lost size : Int) (A A' : Option Addr) (c c' : Nat) (B : Nat) (w : World) (hB : B ≤ w.heap.size) (hs : Sl cInt (Low B) w A c vs) (hs' : Sl cInt (Low B) w A' c' ys)
    (hsize : size ≤ 4) (hvs : vs.length ≤ 4) (hl0 : 0 ≤ lost) :
    Calls Try.prog 62 #[.agg #[.slice A vs.length c, .int .i64 lost], .int .i64 size, .slice A' ys.length c'] w (RetRing (commitFold vs lost size ys).1 (commitFold vs lost size ys).2 w) := by
  have hm' : ys.length ≤ maxLen := Nat.le_trans hs'.cap hs'.max
  unfold maxLen at hm'
  have hfin := Lib.hid (show commitFold vs lost size ys = cst vs lost size ys ys.length by simp [cst])
  have h00 := Lib.hid (show cst vs lost size ys 0 = (vs, lost) by simp [cst, commitFold])
  have hz := Lib.hid (cst_lost vs lost size ys hl0)
  have hs1 := hs
  clear hs
  go_enter Try.func62, Try.ntmps62
  go_upto_region 1 with (fail)
  go_cut [7] (fun v wx => ∃ g A1 c1, v = .pointer (some ⟨g, 0, none⟩) ∧ w.heap.size + 1 < g ∧ wx.heap[w.heap.size + 1]? = some (.cells #[.slice none 0 0, .int .i64 0] 113) ∧ wx.heap[g]? = some (.cells #[.slice A1 vs.length c1, .int .i64 lost] 113) ∧
    wx.ownsRow (w.heap.size + 2) 3 1 (.slice A1 vs.length c1) vs.length (vs.flatMap fun n => [Value.int .i64 n]) ∧ (Value.slice A1 vs.length c1).ownBlock ≠ some g ∧ Below w.heap.size w wx)
  case first =>
    go_region_held3 (fun w' => w'.cell? ⟨w.heap.size, 0, none⟩ = some (.slice A vs.length c) ∧ w'.cell? ⟨w.heap.size, 1, none⟩ = some (.int .i64 lost)) (((try dsimp only); (repeat' apply And.intro) <;> (first | exact (Below.cell (B := w.heap.size) (w := w) byB (by assumption)).trans (by assumption) | go_keep | (simp [go_sem, *]; done))))
      (first | (refine step_app ?_ (.tmp 9) (.tmp 11) _ ?_ (w.heap.size + 2) tyInt (.slice (some ⟨w.heap.size + 3, 0, none⟩) 0 0) 0 [] ?_ ?_ A vs.length c (vs.flatMap fun n => [Value.int .i64 n]) ?_ ?_ (one_int _) ?_ ?_ ?_ ?_; rfl; rfl; rfl; exact (own_mono (base := w.heap.size + 3) (by repeat (first | with_reducible exact own_empty byS | (with_reducible refine World.ownsRow.alloc ?_ _) | (with_reducible refine own_drew ?_) | (with_reducible refine own_drewN ?_ _) | (with_reducible refine ownsRow_setCell_below ?_ ?_ _; rotate_left; (first | omega | (simp <;> omega))))) (by first | omega | exact Below.size (by assumption) | (simp <;> omega))); rfl; exact (hs1.next hB byB).src; (first | (unfold maxLen; omega) | (simp only [maxLen]; omega)); (omega); (first | exact Nat.le_refl _ | exact Below.size (by assumption) | omega | (simp <;> omega)); intro A1 c1 w1 hown1 hg_w1 hat_w1; refine have_then (P := w1.heap[w.heap.size + 2]? = some (.cells #[.slice none 0 0, .int .i64 0] 113)) ?_ (fun t_w1 => ?_); (focus (refine (hg_w1.block _ ?_ ?_).trans ?_; (first | omega | (simp <;> omega)); (first | omega | exact Ne.symm (by assumption) | (intro e; have hlt := (World.ownsRow.lt hown _ e.symm).1; omega) | (simp [Value.ownBlock] <;> omega)); exact byH; done)); obtain ⟨ct_w1, ft_w1, zt_w1⟩ := blk t_w1; refine have_then (P := w1.heap[w.heap.size + 1]? = some (.cells #[.slice none 0 0, .int .i64 0] 113)) ?_ (fun r_w1 => ?_); (focus (refine (hg_w1.block _ ?_ ?_).trans ?_; (first | omega | (simp <;> omega)); (first | omega | exact Ne.symm (by assumption) | (intro e; have hlt := (World.ownsRow.lt hown _ e.symm).1; omega) | (simp [Value.ownBlock] <;> omega)); exact byH; done)); obtain ⟨cr_w1, fr_w1, zr_w1⟩ := blk r_w1; refine have_then (P := w1.heap[w.heap.size]? = some (.cells #[.slice A vs.length c, .int .i64 lost] 113)) ?_ (fun a_w1 => ?_); (focus (refine (hg_w1.block _ ?_ ?_).trans ?_; (first | omega | (simp <;> omega)); (first | omega | exact Ne.symm (by assumption) | (intro e; have hlt := (World.ownsRow.lt hown _ e.symm).1; omega) | (simp [Value.ownBlock] <;> omega)); exact byH; done)); obtain ⟨ca_w1, fa_w1, za_w1⟩ := blk a_w1; refine have_then (P := Below w.heap.size w w1) ?_ (fun h_w1 => ?_); (focus (refine Below.grown ?_ hg_w1 ?_ ?_; (focus (exact byB; done)); (first | exact Nat.le_refl _ | exact Below.size (by assumption) | omega | (simp <;> omega)); (intro kk hkk; first | (simp [Value.ownBlock] at hkk; omega) | (have hlt := (World.ownsRow.lt hown kk hkk).1; omega)); done)); have s_w1 := Below.size h_w1) | (refine step_app ?_ (.tmp 9) (.tmp 11) _ ?_ (w.heap.size + 2) tyInt (.slice (some ⟨w.heap.size + 2, 0, none⟩) 0 0) 0 [] ?_ ?_ A vs.length c (vs.flatMap fun n => [Value.int .i64 n]) ?_ ?_ (one_int _) ?_ ?_ ?_ ?_; rfl; rfl; rfl; exact (own_mono (base := w.heap.size + 2) (by repeat (first | with_reducible exact own_empty byS | (with_reducible refine World.ownsRow.alloc ?_ _) | (with_reducible refine own_drew ?_) | (with_reducible refine own_drewN ?_ _) | (with_reducible refine ownsRow_setCell_below ?_ ?_ _; rotate_left; (first | omega | (simp <;> omega))))) (by first | omega | exact Below.size (by assumption) | (simp <;> omega))); rfl; exact (hs1.next hB byB).src; (first | (unfold maxLen; omega) | (simp only [maxLen]; omega)); (omega); (first | exact Nat.le_refl _ | exact Below.size (by assumption) | omega | (simp <;> omega)); intro A1 c1 w1 hown1 hg_w1 hat_w1; refine have_then (P := w1.heap[w.heap.size + 3]? = some (.cells #[.slice none 0 0, .int .i64 0] 113)) ?_ (fun t_w1 => ?_); (focus (refine (hg_w1.block _ ?_ ?_).trans ?_; (first | omega | (simp <;> omega)); (first | omega | exact Ne.symm (by assumption) | (intro e; have hlt := (World.ownsRow.lt hown _ e.symm).1; omega) | (simp [Value.ownBlock] <;> omega)); exact byH; done)); obtain ⟨ct_w1, ft_w1, zt_w1⟩ := blk t_w1; refine have_then (P := w1.heap[w.heap.size + 1]? = some (.cells #[.slice none 0 0, .int .i64 0] 113)) ?_ (fun r_w1 => ?_); (focus (refine (hg_w1.block _ ?_ ?_).trans ?_; (first | omega | (simp <;> omega)); (first | omega | exact Ne.symm (by assumption) | (intro e; have hlt := (World.ownsRow.lt hown _ e.symm).1; omega) | (simp [Value.ownBlock] <;> omega)); exact byH; done)); obtain ⟨cr_w1, fr_w1, zr_w1⟩ := blk r_w1; refine have_then (P := w1.heap[w.heap.size]? = some (.cells #[.slice A vs.length c, .int .i64 lost] 113)) ?_ (fun a_w1 => ?_); (focus (refine (hg_w1.block _ ?_ ?_).trans ?_; (first | omega | (simp <;> omega)); (first | omega | exact Ne.symm (by assumption) | (intro e; have hlt := (World.ownsRow.lt hown _ e.symm).1; omega) | (simp [Value.ownBlock] <;> omega)); exact byH; done)); obtain ⟨ca_w1, fa_w1, za_w1⟩ := blk a_w1; refine have_then (P := Below w.heap.size w w1) ?_ (fun h_w1 => ?_); (focus (refine Below.grown ?_ hg_w1 ?_ ?_; (focus (exact byB; done)); (first | exact Nat.le_refl _ | exact Below.size (by assumption) | omega | (simp <;> omega)); (intro kk hkk; first | (simp [Value.ownBlock] at hkk; omega) | (have hlt := (World.ownsRow.lt hown kk hkk).1; omega)); done)); have s_w1 := Below.size h_w1) | (refine step_app ?_ (.tmp 9) (.tmp 11) _ ?_ (w.heap.size + 2) tyInt (.slice (some ⟨w.heap.size + 2, 0, none⟩) 0 0) 0 [] ?_ ?_ A vs.length c (vs.flatMap fun n => [Value.int .i64 n]) ?_ ?_ (one_int _) ?_ ?_ ?_ ?_; rfl; rfl; rfl; exact (own_mono (base := w.heap.size + 2) (by repeat (first | with_reducible exact own_empty byS | (with_reducible refine World.ownsRow.alloc ?_ _) | (with_reducible refine own_drew ?_) | (with_reducible refine own_drewN ?_ _) | (with_reducible refine ownsRow_setCell_below ?_ ?_ _; rotate_left; (first | omega | (simp <;> omega))))) (by first | omega | exact Below.size (by assumption) | (simp <;> omega))); rfl; exact (hs1.next hB byB).src; (first | (unfold maxLen; omega) | (simp only [maxLen]; omega)); (omega); (first | exact Nat.le_refl _ | exact Below.size (by assumption) | omega | (simp <;> omega)); intro A1 c1 w1 hown1 hg_w1 hat_w1; refine have_then (P := w1.heap[w.heap.size + 1]? = some (.cells #[.slice none 0 0, .int .i64 0] 113)) ?_ (fun r_w1 => ?_); (focus (refine (hg_w1.block _ ?_ ?_).trans ?_; (first | omega | (simp <;> omega)); (first | omega | exact Ne.symm (by assumption) | (intro e; have hlt := (World.ownsRow.lt hown _ e.symm).1; omega) | (simp [Value.ownBlock] <;> omega)); exact byH; done)); obtain ⟨cr_w1, fr_w1, zr_w1⟩ := blk r_w1; refine have_then (P := w1.heap[w.heap.size]? = some (.cells #[.slice A vs.length c, .int .i64 lost] 113)) ?_ (fun a_w1 => ?_); (focus (refine (hg_w1.block _ ?_ ?_).trans ?_; (first | omega | (simp <;> omega)); (first | omega | exact Ne.symm (by assumption) | (intro e; have hlt := (World.ownsRow.lt hown _ e.symm).1; omega) | (simp [Value.ownBlock] <;> omega)); exact byH; done)); obtain ⟨ca_w1, fa_w1, za_w1⟩ := blk a_w1; refine have_then (P := Below w.heap.size w w1) ?_ (fun h_w1 => ?_); (focus (refine Below.grown ?_ hg_w1 ?_ ?_; (focus (exact byB; done)); (first | exact Nat.le_refl _ | exact Below.size (by assumption) | omega | (simp <;> omega)); (intro kk hkk; first | (simp [Value.ownBlock] at hkk; omega) | (have hlt := (World.ownsRow.lt hown kk hkk).1; omega)); done)); have s_w1 := Below.size h_w1))
    all_goals
      go_wp2_with fail
      go_meet
      simp only [Nat.zero_add, List.nil_append] at hown1 hat_w1
      refine ⟨_, A1, c1, rfl, byS, byH, byH, ?_, (by (intro hk; have hklt := (World.ownsRow.lt hown1 _ hk).2; rw [hk] at hat_w1; simp [Value.ownBlock] at hat_w1 hklt <;> omega)), byB⟩
      first
        | exact hown1.alloc _
        | (refine own_set_ne (own_set_ne hown1 ?_ _) ?_ _ <;> (intro hk; have hklt := (World.ownsRow.lt hown1 _ hk).2; rw [hk] at hat_w1; simp [Value.ownBlock] at hat_w1 hklt <;> omega))
  case rest =>
    obtain ⟨g, A1, c1, rfl, hg, hr, ht, hown, hne, hbw⟩ := hcut
    go_wp2
    go_loopw [8] (fun i wr => ∃ (k : Nat) (A1 : Option Addr) (c1 : Nat), k ≤ ys.length ∧ i = .int .i64 k ∧ wr.heap[w.heap.size + 1]? = some (.cells #[.slice none 0 0, .int .i64 0] 113) ∧
      wr.heap[g]? = some (.cells #[.slice A1 (cst vs lost size ys k).1.length c1, .int .i64 (cst vs lost size ys k).2] 113) ∧
      wr.ownsRow (w.heap.size + 2) 3 1 (.slice A1 (cst vs lost size ys k).1.length c1) (cst vs lost size ys k).1.length ((cst vs lost size ys k).1.flatMap fun n => [Value.int .i64 n]) ∧ (Value.slice A1 (cst vs lost size ys k).1.length c1).ownBlock ≠ some g ∧ Below w.heap.size w wr) (fun i _ => ys.length - (intOf i).toNat)
    case atStart => refine ⟨0, A1, c1, Nat.zero_le _, rfl, hr, ?_, ?_, ?_, hbw⟩ <;> rw [h00.out] <;> assumption
    case round =>
      obtain ⟨k, A1, c1, hk, rfl, hr, ht, hown, hne, hbw⟩ := hrel
      obtain ⟨ct, ft, zt⟩ := blk ht
      by_cases hlt : k < ys.length
      · obtain ⟨b, o, rfl, hI, hcell⟩ := hs'.at_int hlt
        have hbH : b < w.heap.size := Nat.lt_of_lt_of_le hI hB
        have hcellr := (hbw.cell (p := ⟨b, o + k, none⟩) hbH).trans hcell
        have hsucc := Lib.hid (cst_succ vs lost size ys k hlt)
        have hz1 := hz.out k
        generalize hst : cst vs lost size ys k = st at *
        obtain ⟨sv, sl⟩ := st
        have Hst := Lib.hid hst
        clear hst
        have hk0 : (0 : Int) ≤ k := by omega
        have hk1 : (k : Int) < ys.length := by omega
        dsimp only at *
        by_cases h1 : (sv.length : Int) < size
        · have hstep := Lib.hid (show cst vs lost size ys (k + 1) = (sv ++ [nth ys k], sl) by rw [hsucc.out]; simp [commitStep, h1])
          go_wp2_with fail
          go_region_law ((refine step_app ?_ (.tmp 28) (.tmp 33) _ ?_ (w.heap.size + 2) tyInt (.slice A1 sv.length c1) sv.length (sv.flatMap fun n => [Value.int .i64 n]) ?_ ?_ (some ⟨wr.heap.size, 0, none⟩) 1 1 [.int .i64 (nth ys k)] ?_ ?_ (one_one rfl) ?_ ?_ ?_ ?_; rfl; rfl; rfl; exact (own_mono (base := w.heap.size + 2) (by repeat (first | with_reducible exact hown | (with_reducible refine World.ownsRow.alloc ?_ _) | (with_reducible refine own_drew ?_) | (with_reducible refine own_drewN ?_ _) | (with_reducible refine ownsRow_setCell_below ?_ ?_ _; rotate_left; (first | omega | (simp <;> omega))))) (by first | omega | exact Below.size (by assumption) | (simp <;> omega))); rfl; exact (src_new_drew rfl rfl); (first | (unfold maxLen; omega) | (simp only [maxLen]; omega)); (omega); (first | exact Nat.le_refl _ | exact Below.size (by assumption) | omega | (simp <;> omega)); intro A2 c2 w1 hown1 hg_w1 hat_w1; refine have_then (P := w1.heap[w.heap.size + 1]? = some (.cells #[.slice none 0 0, .int .i64 0] 113)) ?_ (fun r_w1 => ?_); (focus (refine (hg_w1.block _ ?_ ?_).trans ?_; (first | omega | (simp <;> omega)); (first | omega | exact Ne.symm (by assumption) | (intro e; have hlt := (World.ownsRow.lt hown _ e.symm).1; omega) | (simp [Value.ownBlock] <;> omega)); exact byH; done)); obtain ⟨cr_w1, fr_w1, zr_w1⟩ := blk r_w1; refine have_then (P := w1.heap[g]? = some (.cells #[.slice A1 sv.length c1, .int .i64 sl] 113)) ?_ (fun t_w1 => ?_); (focus (refine (hg_w1.block _ ?_ ?_).trans ?_; (first | omega | (simp <;> omega)); (first | omega | exact Ne.symm (by assumption) | (intro e; have hlt := (World.ownsRow.lt hown _ e.symm).1; omega) | (simp [Value.ownBlock] <;> omega)); exact byH; done)); obtain ⟨ct_w1, ft_w1, zt_w1⟩ := blk t_w1; refine have_then (P := Below w.heap.size w w1) ?_ (fun h_w1 => ?_); (focus (refine Below.grown ?_ hg_w1 ?_ ?_; (focus (exact byB; done)); (first | exact Nat.le_refl _ | exact Below.size (by assumption) | omega | (simp <;> omega)); (intro kk hkk; first | (simp [Value.ownBlock] at hkk; omega) | (have hlt := (World.ownsRow.lt hown kk hkk).1; omega)); done)); have s_w1 := Below.size h_w1))
          all_goals
            go_wp2
            go_roundw
            case rel =>
              have hne1 : (Value.slice A2 (sv.length + 1) c2).ownBlock ≠ some g := by
                intro hk
                rcases hat_w1 with e | e
                · exact hne (e.symm.trans hk)
                · rw [hk] at e; simp at e; omega
              refine ⟨k + 1, A2, c2, by omega, by go_num, byH, ?_, ?_, ?_, byB⟩ <;> rw [hstep.out]
              · have := heap_set_same (i := 0) (u := .slice A2 (sv.length + 1) c2) t_w1
                simpa using this
              · simp only [List.length_append, List.length_singleton, List.flatMap_append, List.flatMap_cons, List.flatMap_nil, List.append_nil]
                exact own_set_ne hown1 hne1 _
              · simpa using hne1
            case measure => simp [intOf]; omega
        · have h1' : size ≤ (sv.length : Int) := by omega
          by_cases h2 : sl < 100000
          · have hstep := Lib.hid (show cst vs lost size ys (k + 1) = (sv, sl + 1) by rw [hsucc.out]; simp [commitStep, h1, h2])
            go_wp2
            go_roundw
            case rel =>
              refine ⟨k + 1, A1, c1, by omega, by go_num, byH, ?_, ?_, ?_, byB⟩ <;> rw [hstep.out]
              · have := heap_set_same (i := 1) (u := .int .i64 (sl + 1)) ht
                simpa using this
              · exact own_set_ne hown hne _
              · exact hne
            case measure => simp [intOf]; omega
          · have hstep := Lib.hid (show cst vs lost size ys (k + 1) = (sv, sl) by rw [hsucc.out]; simp [commitStep, h1, h2])
            have h2' : 100000 ≤ sl := by omega
            go_wp2
            go_roundw
            case rel => refine ⟨k + 1, A1, c1, by omega, by go_num, hr, ?_, ?_, ?_, hbw⟩ <;> rw [hstep.out] <;> assumption
            case measure => simp [intOf]; omega
      · obtain rfl : k = ys.length := by omega
        obtain ⟨cr, fr, zr⟩ := blk hr
        obtain ⟨st, hst⟩ : ∃ st, cst vs lost size ys ys.length = st := ⟨_, rfl⟩
        rw [hst] at ht ct hown hne
        have Hf := Lib.hid (hfin.out.trans hst)
        clear hst
        go_wp2
        refine bodyPost_ret (v := .agg #[.slice A1 st.1.length c1, .int .i64 st.2]) (by simp [results, Try.results62, go_sem, *]) rfl ?_
        rw [Hf.out]
        refine ⟨A1, c1, rfl, ?_, byB⟩
        exact (own_mono (base := w.heap.size + 2) (by repeat (first | with_reducible exact hown | (with_reducible refine World.ownsRow.alloc ?_ _) | (with_reducible refine own_drew ?_) | (with_reducible refine own_drewN ?_ _) | (with_reducible refine ownsRow_setCell_below ?_ ?_ _; rotate_left; (first | omega | (simp <;> omega))))) (by first | omega | exact Below.size (by assumption) | (simp <;> omega)))
end Go.Proofs.Ytinlmkhlgclbfab
