/-
  OrdA: the law's choose; the plain law behind MailOrder.
-/
import Derived.Test.YtinlmkhlgclbfaaMailJ
namespace Go.Proofs.Ytinlmkhlgclbfaa
open Go.RowKit
set_option maxRecDepth 100000
set_option maxHeartbeats 400000

/-- which of n things a raw number speaks of -/
def chosen (c n : Int) : Int := (if c < 0 then -(c + 1) else c).tmod n
theorem chosen_lt (c n : Int) (hn : 0 < n) : 0 ≤ chosen c n ∧ chosen c n < n := by
  unfold chosen
  split
  · exact ⟨Int.tmod_nonneg _ (by omega), Int.tmod_lt_of_pos _ hn⟩
  · exact ⟨Int.tmod_nonneg _ (by omega), Int.tmod_lt_of_pos _ hn⟩

theorem checkRing_eq {vs : List Int} {lost size : Int} : checkRing vs lost size = 0 ↔ 1 ≤ size ∧ size ≤ 4 ∧ (vs.length : Int) ≤ size ∧ areValues vs = true ∧ 0 ≤ lost ∧ lost ≤ 100000 := by
  constructor
  · exact checkRing_ok
  · intro ⟨h1, h2, h3, h4, h5, h6⟩
    have e1 : inB 1 size 4 = true := inB_true.2 ⟨h1, h2⟩
    have e2 : inB 0 lost 100000 = true := inB_true.2 ⟨h5, h6⟩
    unfold checkRing
    simp [e1, e2, h4, h3]

theorem areValues_iff {xs : List Int} : areValues xs = true ↔ ∀ x ∈ xs, 0 ≤ x ∧ x ≤ 255 := by
  unfold areValues
  rw [Bool.not_eq_true', anyI_false]
  constructor
  · intro h x hx
    obtain ⟨j, hj, rfl⟩ := List.mem_iff_getElem.1 hx
    have := h j hj
    rw [nth_eq hj] at this
    simpa [badValue, inB] using this
  · intro h j hj
    rw [nth_eq hj]
    have := h _ (List.getElem_mem hj)
    simpa [badValue, inB] using this

theorem commitErr_ok {vs ys : List Int} {lost size : Int} (h : commitErr vs ys lost size = 0) : checkRing vs lost size = 0 ∧ areValues ys = true := by
  unfold commitErr at h
  split at h
  · rename_i h1; exact absurd h h1
  · rename_i h1
    split at h
    · omega
    · rename_i h2; exact ⟨by simpa using h1, by simpa using h2⟩

/-- what came in goes on being a ring -/
theorem come_ok {vs ys : List Int} {lost size : Int} (h : commitErr vs ys lost size = 0) : checkRing (comeVals vs ys size.toNat) (comeLost vs ys lost size.toNat) size = 0 := by
  obtain ⟨h1, h2⟩ := commitErr_ok h
  obtain ⟨a, b, c, d, e, f⟩ := checkRing_eq.1 h1
  have hn : comeN vs ys size.toNat ≤ ys.length := by unfold comeN; omega
  have hn2 : vs.length + comeN vs ys size.toNat ≤ size.toNat := by unfold comeN; omega
  refine checkRing_eq.2 ⟨a, b, ?_, ?_, ?_, ?_⟩
  · unfold comeVals
    simp only [List.length_append, List.length_take]
    omega
  · rw [areValues_iff] at d h2 ⊢
    intro x hx
    unfold comeVals at hx
    rcases List.mem_append.1 hx with hx | hx
    · exact d x hx
    · exact h2 x (List.mem_of_mem_take hx)
  · unfold comeLost; omega
  · unfold comeLost; omega

/-- what is left goes on being a ring -/
theorem rest_ok {vs : List Int} {lost size : Int} (h : checkRing vs lost size = 0) : checkRing (restOf vs) lost size = 0 := by
  obtain ⟨a, b, c, d, e, f⟩ := checkRing_eq.1 h
  refine checkRing_eq.2 ⟨a, b, ?_, ?_, e, f⟩
  · unfold restOf; simp only [List.length_tail]; omega
  · rw [areValues_iff] at d ⊢
    intro x hx
    exact d x (List.mem_of_mem_tail hx)

theorem takeV_neg {vs : List Int} {lost size : Int} (h : checkRing vs lost size = 0) : decide (takeV vs < 0) = decide (vs.length = 0) := by
  obtain ⟨_, _, _, d, _, _⟩ := checkRing_eq.1 h
  rw [areValues_iff] at d
  cases vs with
  | nil => rfl
  | cons v vs =>
    have := d v (by simp)
    have e : takeV (v :: vs) = v := rfl
    rw [e]
    simp; omega

theorem take_rest (vs : List Int) (hv : 0 ≤ takeV vs) : takeV vs :: restOf vs = vs := by
  cases vs with
  | nil => exact absurd hv (by decide)
  | cons v vs => rfl

theorem lawChoose (c n : Int) (w : World) (h1 : -9223372036854775808 ≤ c) (h2 : c ≤ 9223372036854775807) (hn : 1 ≤ n) (hn2 : n ≤ 1000000) :
    Calls Try.prog 22 #[.int .i64 c, .int .i64 n] w fun e w' => e = .returned (.int .i64 (chosen c n)) ∧ w = w' := by
  have hn0 : (n == 0) = false := by simp; omega
  by_cases h : c < 0
  · have E := Lib.hid (show chosen c n = (-(c + 1)).tmod n by simp [chosen, h])
    go_enter Try.func22, Try.ntmps22
    go_wp2
    go_ret
    rw [E.out]
    exact ⟨ret_int (by simp [Int.neg_tmod]), rfl⟩
  · have E := Lib.hid (show chosen c n = c.tmod n by simp [chosen, h])
    go_enter Try.func22, Try.ntmps22
    go_wp2
    go_ret
    rw [E.out]
    exact ⟨ret_int (by simp [Int.tmod_eq_emod_of_nonneg h]), rfl⟩
end Go.Proofs.Ytinlmkhlgclbfaa
