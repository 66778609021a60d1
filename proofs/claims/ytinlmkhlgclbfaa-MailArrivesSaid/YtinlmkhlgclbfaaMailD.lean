/-
  MailD: contracts of mail.Come, mail.Take.
-/
import Derived.Test.YtinlmkhlgclbfaaMailC
namespace Go.Proofs.Ytinlmkhlgclbfaa
open Go.RowKit
set_option maxRecDepth 100000
set_option maxHeartbeats 400000

/-- C1: what waits behind a Commit, and how many are lost -/
def comeN (vs ys : List Int) (size : Nat) : Nat := min (size - vs.length) ys.length
def comeVals (vs ys : List Int) (size : Nat) : List Int := vs ++ ys.take (comeN vs ys size)
def comeLost (vs ys : List Int) (lost : Int) (size : Nat) : Int := min 100000 (lost + ys.length - comeN vs ys size)

/-- a ring of new memory comes back -/
def RetRing (vals : List Int) (lost : Int) (w : World) (en : Ending) (w' : World) : Prop :=
  ∃ A c, en = .returned (.agg #[.slice A vals.length c, .int .i64 lost]) ∧ w'.ownsRow w.heap.size 3 1 (.slice A vals.length c) vals.length (vals.flatMap fun n => [Value.int .i64 n]) ∧ Below w.heap.size w w'

theorem mailCome (vs ys : List Int) (lost : Int) (size : Nat) (A A' : Option Addr) (c c' : Nat) (B : Nat) (w : World) (hB : B ≤ w.heap.size) (hs : Sl cInt (Low B) w A c vs) (hs' : Sl cInt (Low B) w A' c' ys)
    (hsize : size ≤ 4) (hvs : vs.length ≤ size) (hl0 : 0 ≤ lost) (hl1 : lost ≤ 100000) (hy : ys.length * 8 ≤ 140737488355328) :
    Calls Try.prog 63 #[.agg #[.slice A vs.length c, .int .i64 lost], .int .i64 size, .slice A' ys.length c'] w (RetRing (comeVals vs ys size) (comeLost vs ys lost size) w) := by
  have hmin : (min ((size : Int) - (vs.length : Int)) (ys.length : Int)) = ((comeN vs ys size : Nat) : Int) := by unfold comeN; omega
  have hn : comeN vs ys size ≤ ys.length := by unfold comeN; omega
  have hn4 : comeN vs ys size ≤ 4 := by unfold comeN; omega
  have hc' : ys.length ≤ c' := hs'.cap
  have Hmin := Lib.hid hmin
  clear hmin
  have hn0 : (0 : Int) ≤ (comeN vs ys size : Nat) := by omega
  have hnc : ((comeN vs ys size : Nat) : Int) ≤ c' := by omega
  generalize hN : comeN vs ys size = N at *
  have HN := Lib.hid hN
  clear hN
  have hlen : (ys.take N).length = N := by rw [List.length_take]; omega
  have Hlen := Lib.hid hlen
  clear hlen
  have hsum : lost + ys.length ≤ 100000000000000 := by omega
  have Hv := Lib.hid (show comeVals vs ys size = vs ++ ys.take N by unfold comeVals; rw [HN.out])
  have Hl := Lib.hid (show comeLost vs ys lost size = min 100000 (lost + ys.length - N) by unfold comeLost; rw [HN.out])
  have HC := fun W g (hb : Below w.heap.size w W) (h : W.heap[g]? = some (.cells #[.slice A vs.length c, .slice A' N c'] 22)) =>
    concatInt [vs, ys.take N] (some ⟨g, 0, none⟩) 2 W.heap.size W (Nat.le_refl _) (sl_two h (Array.getElem?_eq_some_iff.1 h).1 rfl Hlen.out.symm ((hs.next hB hb).up (Nat.le_trans hB hb.size)) (((hs'.next hB hb).take N).up (Nat.le_trans hB hb.size)))
      (by simp only [List.flatten_cons, List.flatten_nil, List.append_nil, List.length_append, Hlen.out]; omega)
  clear hs hs'
  have hcat : [vs, ys.take N].flatten = comeVals vs ys size := by rw [Hv.out]; simp
  rw [hcat] at HC
  have hlen : (comeVals vs ys size).length = vs.length + N := by rw [Hv.out, List.length_append, Hlen.out]
  rw [hlen] at HC
  have HC := Lib.hid HC
  clear hcat
  have Hlc := Lib.hid hlen
  clear hlen
  go_enter Try.func63, Try.ntmps63
  go_upto_region 1 with (fail)
  go_cut [7] (fun v wx => v = .int .i64 (N : Nat) ∧ wx = (w.alloc (.cells #[.slice A vs.length c, .int .i64 lost] 24)).alloc (.cells #[.slice none 0 0, .int .i64 0] 24))
  case first =>
    go_wp2
    all_goals go_meet
    all_goals (refine ⟨?_, rfl⟩; rw [← Hmin.out]; congr 1; omega)
  case rest =>
    obtain ⟨rfl, rfl⟩ := hcut
    go_upto_region 2 with (fail)
    go_cut [31] (fun _ wx => ∃ A1 c1, wx.cell? ⟨w.heap.size + 1, 0, none⟩ = some (.slice A1 (vs.length + N) c1) ∧ wx.cell? ⟨w.heap.size + 1, 1, none⟩ = some (.int .i64 (comeLost vs ys lost size)) ∧
      wx.ownsRow w.heap.size 3 1 (.slice A1 (vs.length + N) c1) (vs.length + N) ((comeVals vs ys size).flatMap fun n => [Value.int .i64 n]) ∧ Below w.heap.size w wx)
    case first =>
      have hw1 : IntKind.i64.wrap (lost + ys.length) = lost + ys.length := IntWalk.i64_in _ (by omega)
      have hw2 : IntKind.i64.wrap (lost + ys.length - N) = lost + ys.length - N := IntWalk.i64_in _ (by omega)
      rcases Int.lt_or_le (lost + ys.length - N) 100000 with hmx | hmx
      all_goals
        go_region_held3 (fun w' => w'.cell? ⟨w.heap.size, 0, none⟩ = some (.slice A vs.length c) ∧ w'.cell? ⟨w.heap.size, 1, none⟩ = some (.int .i64 lost)) (first | go_keep | (rw [hc1 _ _ (by simp; omega), hc1 _ _ (by simp; omega)]; go_keep))
          (first | (go_at_call 105; refine (HC.out _ _ (by repeat (first | with_reducible exact Below.refl _ _ | with_reducible assumption | (with_reducible refine Below.drew ?_) | (with_reducible refine Below.alloc ?_ ?_ _; rotate_left; (first | omega | (simp <;> omega))) | (with_reducible refine Below.setCell ?_ ?_ _; rotate_left; (first | omega | (simp <;> omega))) | (with_reducible refine below_drewN ?_ _) | (refine Below.trans ?_ (Below.mono (by with_reducible assumption) (by first | omega | (simp <;> omega)))))) (by first | with_reducible exact heapAt _ _ _ (by first | rfl | (first | omega | (simp <;> omega))) | with_reducible exact heapAt_drew _ _ _ (by first | rfl | (first | omega | (simp <;> omega))) | with_reducible exact heapAt_drewN _ _ _ _ (by first | rfl | (first | omega | (simp <;> omega))))).mono ?_; rintro e w1 ⟨A1, c1, rfl, hown, hb1⟩; obtain ⟨hc1, hf1⟩ := bcell hb1))
      all_goals
        go_wp2_with fail
        go_meet
        have z : w.heap.size + 3 ≤ w1.heap.size := by have := hb1.size; simpa using this
        have q0 : w1.cell? ⟨w.heap.size + 1, 0, none⟩ = some (.slice none 0 0) := by rw [hc1 _ _ (by simp)]; simp [go_sem]
        have q1 : w1.cell? ⟨w.heap.size + 1, 1, none⟩ = some (.int .i64 0) := by rw [hc1 _ _ (by simp)]; simp [go_sem]
        clear hc1 hf1
        refine ⟨A1, c1, by simp [go_sem, q0, q1], ?_, ?_, (by repeat (first | with_reducible exact Below.refl _ _ | with_reducible assumption | (with_reducible refine Below.drew ?_) | (with_reducible refine Below.alloc ?_ ?_ _; rotate_left; (first | omega | (simp <;> omega))) | (with_reducible refine Below.setCell ?_ ?_ _; rotate_left; (first | omega | (simp <;> omega))) | (with_reducible refine below_drewN ?_ _) | (refine Below.trans ?_ (Below.mono (by with_reducible assumption) (by first | omega | (simp <;> omega))))))⟩
        · simp [go_sem, q0, q1]; rw [Hl.out]; first | omega | (split <;> omega)
        · refine own_mono (ownsRow_setCell_below (ownsRow_setCell_below hown ?_ _) ?_ _) ?_ <;> simp <;> omega
    case rest =>
      obtain ⟨A1, c1, q0, q1, hown, hbw⟩ := hcut
      go_wp2
      refine bodyPost_ret (v := .agg #[.slice A1 (vs.length + N) c1, .int .i64 (comeLost vs ys lost size)]) (by simp [results, Try.results63, go_sem, q0, q1]) rfl ?_
      exact ⟨A1, c1, by rw [Hlc.out], by rw [Hlc.out]; exact hown, hbw⟩
end Go.Proofs.Ytinlmkhlgclbfaa
