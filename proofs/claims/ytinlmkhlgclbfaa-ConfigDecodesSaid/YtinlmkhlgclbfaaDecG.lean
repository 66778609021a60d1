/-
  DecG: contracts of the literal that config.read defers: where read returns, where it panics.
-/
import Derived.Test.YtinlmkhlgclbfaaDecA
import Derived.Tactics2
import Derived.Defers
import Derived.Recover
namespace Go.Proofs.Ytinlmkhlgclbfaa
open Go.RowKit
set_option maxRecDepth 100000
set_option maxHeartbeats 1000000

theorem readCatchIdle (p0 p1 p2 : Addr) (w : World) :
    CallsD Try.prog 118 #[.pointer (some p0), .pointer (some p1), .pointer (some p2)] .returning w fun e u' w' => e = .returned (.tuple #[]) ∧ u' = .returning ∧ w' = w := by
  refine callsD_of_wpS Try.func118 rfl fun c₀ cs hu => ?_
  apply wpS_seq
  apply wpS_region
  simp [wpOpsS, go_sem, recoverD, hu, Try.ntmps118, Exit.thenS]
  apply wpS_seq
  apply wpS_region
  simp [wpOpsS, go_sem, Exit.thenS]
  refine wpS_cond (t := false) (by simp [Act.eval, Array.replicate]) ?_
  simp only [Bool.false_eq_true, if_false]
  refine wpS_of_wp (wp_skip ?_)
  cases c₀
  simp_all [bodyPostS, results, Try.results118]

theorem bad_yes (W : World) (v : Value) (n : Nat) : (Instr.typeAssert (.iface 157 v) n 157 true).run Try.prog W = .ok (.tuple #[v, .bool true]) W := by kernel_rfl

theorem readCatchBad (g0 g1 g2 : Nat) (n : Nat) (w : World) (h01 : g0 < g1) (h12 : g1 < g2) (h0 : w.heap[g0]? = some (.cells #[.int .i64 0, .int .i64 0, .int .i64 0, .int .i64 0, .int .i64 0, .slice none 0 0, .slice none 0 0, .slice none 0 0, .slice none 0 0] 63)) (h1 : w.heap[g1]? = some (.cells #[.int .i64 0] 3)) (h2 : w.heap[g2]? = some (.cells #[.int .i64 0] 25)) :
    CallsD Try.prog 118 #[.pointer (some ⟨g0, 0, none⟩), .pointer (some ⟨g1, 0, none⟩), .pointer (some ⟨g2, 0, none⟩)] (.panicking (badChain n)) w fun e u' w' =>
      e = .returned (.tuple #[]) ∧ u' = .panicking [{ v := .iface 157 (.int .i64 n), recovered := true }] ∧ Below g0 w w' ∧
      w'.heap[g0]? = some (.cells #[.int .i64 0, .int .i64 0, .int .i64 0, .int .i64 0, .int .i64 0, .slice none 0 0, .slice none 0 0, .slice none 0 0, .slice none 0 0] 63) ∧ w'.heap[g1]? = some (.cells #[.int .i64 n] 3) ∧ w'.heap[g2]? = some (.cells #[.int .i64 1] 25) := by
  obtain ⟨c0, f0, z0⟩ := blk h0
  obtain ⟨c1, f1, z1⟩ := blk h1
  obtain ⟨c2, f2, z2⟩ := blk h2
  have n10 : ¬ g1 = g0 := by omega
  have n20 : ¬ g2 = g0 := by omega
  have n21 : ¬ g2 = g1 := by omega
  refine callsD_of_wpS Try.func118 rfl fun c₀ cs hu => ?_
  unfold badChain at hu
  have hrep : Array.replicate 16 undef = #[undef, undef, undef, undef, undef, undef, undef, undef, undef, undef, undef, undef, undef, undef, undef, undef] := rfl
  have hta := fun W v n => bad_yes W v n
  apply wpS_seq
  apply wpS_region
  simp [wpOpsS, go_sem, recoverD, hu, Try.ntmps118, Exit.thenS, hrep]
  apply wpS_seq
  apply wpS_region
  simp [wpOpsS, go_sem, Exit.thenS]
  refine wpS_cond (t := true) (by simp [Act.eval, Array.replicate]) ?_
  simp only [if_true]
  apply wpS_seq
  apply wpS_region
  simp [wpOpsS, go_sem, Exit.thenS, hta]
  apply wpS_seq
  apply wpS_seq
  apply wpS_region
  simp [wpOpsS, go_sem, Exit.thenS]
  refine wpS_cond (t := false) (by simp [Act.eval]) ?_
  simp only [Bool.false_eq_true, if_false]
  refine wpS_of_wp (wp_skip ?_)
  simp only [Exit.thenS]
  apply wpS_region
  simp [wpOpsS, go_sem, c0, f0, c1, f1, c2, f2, n10, n20, n21]
  refine ⟨rfl, _, rfl, .tuple #[], by simp [results, Try.results118, go_sem], rfl, rfl, ?_, ?_, ?_, ?_⟩
  · (repeat' (with_reducible refine Below.setCell ?_ ?_ _)) <;> first | exact Below.refl _ _ | (simp; done) | (simp; omega)
  · repeat (refine heap_set_far ?_ (by simp; omega))
    have e := heap_set_same (i := 8) (u := .slice none 0 0) (heap_set_same (i := 7) (u := .slice none 0 0) (heap_set_same (i := 6) (u := .slice none 0 0) (heap_set_same (i := 5) (u := .slice none 0 0) (heap_set_same (i := 4) (u := .int .i64 0) (heap_set_same (i := 3) (u := .int .i64 0) (heap_set_same (i := 2) (u := .int .i64 0) (heap_set_same (i := 1) (u := .int .i64 0) (heap_set_same (i := 0) (u := .int .i64 0) h0))))))))
    simpa using e
  · refine heap_set_far ?_ (by simp; omega)
    refine (heap_set_same (fr := (0, 0)) (t := 3) (cs := #[.int .i64 0]) ?_).trans (by simp)
    repeat (refine heap_set_far ?_ (by simp; omega))
    exact h1
  · refine (heap_set_same (fr := (0, 0)) (t := 25) (cs := #[.int .i64 0]) ?_).trans (by simp)
    repeat (refine heap_set_far ?_ (by simp; omega))
    exact h2
end Go.Proofs.Ytinlmkhlgclbfaa
