/- MailE -/
import Derived.Test.YtinlmkhlgclbfabTsA32
namespace Go.Proofs.Ytinlmkhlgclbfab
open Go.RowKit
set_option maxRecDepth 100000
set_option maxHeartbeats 400000

theorem Sl.tail {T : Type} {e : Cod T} {I : Nat → Prop} {w : World} {b o c : Nat} {x : T} {xs : List T} (h : Sl e I w (some ⟨b, o, none⟩) c (x :: xs)) :
    Sl e I w (if c = 1 then some ⟨b, o, none⟩ else some ⟨b, o + 1 * e.size, none⟩) (c - 1) xs := by
  have hc := h.cap
  simp only [List.length_cons] at hc
  refine ⟨by omega, by have := h.max; omega, fun hn => (by split at hn <;> cases hn), fun i hi => ?_⟩
  obtain ⟨b', o', es, hA, hI, hr, hcell⟩ := h.elem (i + 1) (by simpa using hi)
  injection hA with hA; injection hA with e1 e2
  subst e1; subst e2
  rw [if_neg (by omega)]
  refine ⟨_, _, es, rfl, hI, by simpa using hr, ?_⟩
  rw [show o + 1 * e.size + i * e.size = o + (i + 1) * e.size by rw [Nat.add_mul]; omega]
  exact hcell

/-- a ring of new memory and a number come back -/
def RetRingInt (vals : List Int) (lost v : Int) (w : World) (en : Ending) (w' : World) : Prop :=
  ∃ A c, en = .returned (.tuple #[.agg #[.slice A vals.length c, .int .i64 lost], .int .i64 v]) ∧ w'.ownsRow w.heap.size 3 1 (.slice A vals.length c) vals.length (vals.flatMap fun n => [Value.int .i64 n]) ∧ Below w.heap.size w w'

/-- what waits behind the first -/

theorem mailTake (vs : List Int) (lost : Int) (A : Option Addr) (c : Nat) (B : Nat) (w : World) (hB : B ≤ w.heap.size) (hs : Sl cInt (Low B) w A c vs) (hb : vs.length * 8 ≤ 140737488355328) :
    Calls Try.prog 154 #[.agg #[.slice A vs.length c, .int .i64 lost]] w (RetRingInt (restOf vs) lost (takeV vs) w) := by
  cases vs with
  | nil =>
    go_enter Try.func154, Try.ntmps154
    go_wp2
    refine bodyPost_ret (v := .tuple #[.agg #[.slice none 0 0, .int .i64 lost], .int .i64 (-1)]) (by simp [results, Try.results154, go_sem]) rfl ?_
    exact ⟨none, 0, rfl, World.ownsRow_nil _ _ _ _, byB⟩
  | cons v0 vs =>
    obtain ⟨b, o, hA, hI, hcell⟩ := hs.at_int (k := 0) (by simp)
    subst hA
    have hnth : nth (v0 :: vs) 0 = v0 := rfl
    rw [hnth, Nat.add_zero] at hcell
    have ht := hs.tail
    have hlt : b < w.heap.size := Nat.lt_of_lt_of_le hI hB
    have hc := hs.cap
    have hcm := hs.max
    simp only [List.length_cons] at hc hb
    have HC := fun A2 c2 (h2 : Sl cInt (Low B) w A2 c2 vs) W (hbw : Below w.heap.size w W) => cloneInt vs A2 c2 B W (Nat.le_trans hB hbw.size) (h2.next hB hbw) (by omega)
    have HC2 : ∃ A2 c2, ((c = 1 ∧ A2 = some (⟨b, o, none⟩ : Addr) ∧ c2 = 0) ∨ (¬ c = 1 ∧ A2 = some (⟨b, o + 1, none⟩ : Addr) ∧ c2 = c - 1)) ∧ Sl cInt (Low B) w A2 c2 vs := by
      by_cases h : c = 1
      · subst h; exact ⟨_, _, .inl ⟨rfl, rfl, rfl⟩, by simpa using ht⟩
      · rw [if_neg h] at ht; exact ⟨_, _, .inr ⟨h, rfl, rfl⟩, by simpa [cInt, Cod.flat] using ht⟩
    clear hs ht
    obtain ⟨A2, c2, hor, ht⟩ := HC2
    have HC := Lib.hid (HC A2 c2 ht)
    clear ht
    have hne : b ≠ w.heap.size + 1 := by omega
    have hne2 : w.heap.size + 1 ≠ b := by omega
    have h0 : (0 : Int) < ((vs.length + 1 : Nat) : Int) := by omega
    have h1 : ((vs.length + 1 : Nat) == 0) = false := by simp
    have hpos : (1 : Int) ≤ (vs.length : Int) + 1 := by omega
    have hpos2 : (0 : Int) < (vs.length : Int) + 1 := by omega
    have heq : (((vs.length : Int) + 1) == 0) = false := by simp; omega
    rcases hor with ⟨rfl, rfl, rfl⟩ | ⟨hcap, rfl, rfl⟩
    · obtain rfl : vs = [] := List.eq_nil_of_length_eq_zero (by omega)
      go_enter Try.func154, Try.ntmps154
      go_upto_region 3 with (fail)
      go_cut [3] (fun v wx => ∃ A1 c1, v = .int .i64 v0 ∧ wx.cell? ⟨w.heap.size + 1, 0, none⟩ = some (.slice A1 0 c1) ∧ wx.cell? ⟨w.heap.size + 1, 1, none⟩ = some (.int .i64 lost) ∧
        wx.ownsRow w.heap.size 3 1 (.slice A1 0 c1) 0 (([] : List Int).flatMap fun n => [Value.int .i64 n]) ∧ Below w.heap.size w wx)
      case first =>
        go_region_held3 (fun w' => w'.cell? ⟨w.heap.size, 0, none⟩ = some (.slice (some ⟨b, o, none⟩) (1) 1) ∧ w'.cell? ⟨w.heap.size, 1, none⟩ = some (.int .i64 lost) ∧ w'.cell? ⟨b, o, none⟩ = some (.int .i64 v0)) (first | go_keep | ((try dsimp only); (repeat apply And.intro) <;> go_keep))
          (first | (go_at_call 101; refine (HC.out _ byB).mono ?_; rintro e w1 ⟨A1, c1, rfl, hown, hb1⟩; obtain ⟨hcw, hfw⟩ := bcell hb1; have k0 := hcw w.heap.size 0 (by simp; omega); have k1 := hcw w.heap.size 1 (by simp; omega); have k2 := hcw b o (by simp; omega); have q0 := hcw (w.heap.size + 1) 0 (by simp); have q1 := hcw (w.heap.size + 1) 1 (by simp); simp [go_sem, hcell, hlt] at k0 k1 k2 q0 q1))
        all_goals
          go_wp2_with fail
          go_meet
          refine ⟨A1, c1, rfl, by simp [go_sem, q0, q1], by simp [go_sem, q0, q1], ?_, byB⟩
          refine own_mono (ownsRow_setCell_below (ownsRow_setCell_below hown ?_ _) ?_ _) ?_ <;> simp <;> omega
      case rest =>
        obtain ⟨A1, c1, rfl, q0, q1, hown, hbw⟩ := hcut
        go_wp2
        exact bodyPost_ret (v := .tuple #[.agg #[.slice A1 0 c1, .int .i64 lost], .int .i64 v0]) (by simp [results, Try.results154, go_sem, q0, q1]) rfl ⟨A1, c1, rfl, hown, hbw⟩
    · skip
      go_enter Try.func154, Try.ntmps154
      go_upto_region 3 with (fail)
      go_cut [3] (fun v wx => ∃ A1 c1, v = .int .i64 v0 ∧ wx.cell? ⟨w.heap.size + 1, 0, none⟩ = some (.slice A1 vs.length c1) ∧ wx.cell? ⟨w.heap.size + 1, 1, none⟩ = some (.int .i64 lost) ∧
        wx.ownsRow w.heap.size 3 1 (.slice A1 vs.length c1) vs.length (vs.flatMap fun n => [Value.int .i64 n]) ∧ Below w.heap.size w wx)
      case first =>
        go_region_held3 (fun w' => w'.cell? ⟨w.heap.size, 0, none⟩ = some (.slice (some ⟨b, o, none⟩) (vs.length + 1) c) ∧ w'.cell? ⟨w.heap.size, 1, none⟩ = some (.int .i64 lost) ∧ w'.cell? ⟨b, o, none⟩ = some (.int .i64 v0)) (first | go_keep | ((try dsimp only); (repeat apply And.intro) <;> go_keep))
          (first | (go_at_call 101; refine (HC.out _ byB).mono ?_; rintro e w1 ⟨A1, c1, rfl, hown, hb1⟩; obtain ⟨hcw, hfw⟩ := bcell hb1; have k0 := hcw w.heap.size 0 (by simp; omega); have k1 := hcw w.heap.size 1 (by simp; omega); have k2 := hcw b o (by simp; omega); have q0 := hcw (w.heap.size + 1) 0 (by simp); have q1 := hcw (w.heap.size + 1) 1 (by simp); simp [go_sem, hcell, hlt] at k0 k1 k2 q0 q1))
        all_goals
          go_wp2_with fail
          go_meet
          refine ⟨A1, c1, rfl, by simp [go_sem, q0, q1], by simp [go_sem, q0, q1], ?_, byB⟩
          refine own_mono (ownsRow_setCell_below (ownsRow_setCell_below hown ?_ _) ?_ _) ?_ <;> simp <;> omega
      case rest =>
        obtain ⟨A1, c1, rfl, q0, q1, hown, hbw⟩ := hcut
        go_wp2
        exact bodyPost_ret (v := .tuple #[.agg #[.slice A1 vs.length c1, .int .i64 lost], .int .i64 v0]) (by simp [results, Try.results154, go_sem, q0, q1]) rfl ⟨A1, c1, rfl, hown, hbw⟩

end Go.Proofs.Ytinlmkhlgclbfab
