/-
  DecQ: where the reference's reader stands, on plain data; contracts of its two function literals.
-/
import Derived.Test.YtinlmkhlgclbfaaDecI
import Derived.Test.YtinlmkhlgclbfaaConfR
import Derived.Deep.RegionLaw
import Derived.Deep.RegionHeld3
namespace Go.Proofs.Ytinlmkhlgclbfaa
open Go.RowKit
set_option maxRecDepth 100000
set_option maxHeartbeats 1000000

def sizeN : Nat → Nat | 0 => 3 | 1 => 1 | 2 => 3 | _ => 7
def mostN : Nat → Nat | 0 => 6 | 1 => 4 | 2 => 4 | _ => 6
/-- where the k-th count stands -/
def posn (bs : List Int) : Nat → Nat
  | 0 => 6
  | k + 1 => posn bs k + 1 + sizeN k * cntAt bs (posn bs k)
theorem posn1 (bs : List Int) : posn bs 1 = q1 bs := by simp only [posn, sizeN, q1]; (try omega)
theorem posn2 (bs : List Int) : posn bs 2 = q2 bs := by rw [show posn bs 2 = posn bs 1 + 1 + 1 * cntAt bs (posn bs 1) from rfl, posn1]; (try (unfold q2; omega))
theorem posn3 (bs : List Int) : posn bs 3 = q3 bs := by rw [show posn bs 3 = posn bs 2 + 1 + 3 * cntAt bs (posn bs 2) from rfl, posn2]; (try (unfold q3; omega))
theorem posn4 (bs : List Int) : posn bs 4 = q4 bs := by rw [show posn bs 4 = posn bs 3 + 1 + 7 * cntAt bs (posn bs 3) from rfl, posn3]; (try (unfold q4; omega))
theorem sizeN_le (k : Nat) : sizeN k ≤ 7 := by unfold sizeN; split <;> omega
theorem mostN_le (k : Nat) : mostN k ≤ 6 := by unfold mostN; split <;> omega
/-- the counts ahead of the k-th are there, and none is too great -/
def Passed (bs : List Int) (k : Nat) : Prop := (0 < bs.length → nth bs 0 = 67) ∧ ∀ j, j < k → posn bs j < bs.length ∧ cntAt bs (posn bs j) ≤ mostN j
theorem Passed.step {bs : List Int} {k : Nat} (h : Passed bs k) (h1 : posn bs k < bs.length) (h2 : cntAt bs (posn bs k) ≤ mostN k) : Passed bs (k + 1) :=
  ⟨h.1, fun j hj => by rcases Nat.lt_or_ge j k with e | e; exact h.2 j e; obtain rfl : j = k := by omega
                       exact ⟨h1, h2⟩⟩
theorem posn_le {bs : List Int} : ∀ {k : Nat}, k ≤ 4 → Passed bs k → posn bs k ≤ 6 + 50 * k := by
  intro k
  induction k with
  | zero => intro _ _; show 6 ≤ _; omega
  | succ k ih =>
    intro hk h
    have h1 := ih (by omega) ⟨h.1, fun j hj => h.2 j (by omega)⟩
    obtain ⟨_, h2⟩ := h.2 k (by omega)
    show posn bs k + 1 + sizeN k * cntAt bs (posn bs k) ≤ _
    have h3 := Nat.mul_le_mul (sizeN_le k) (Nat.le_trans h2 (mostN_le k))
    omega
theorem passed_short {bs : List Int} {k : Nat} (hk : k < 4) (h : Passed bs k) (h1 : bs.length ≤ posn bs k) : decFault bs = bs.length := by
  obtain ⟨h0, hp⟩ := h
  have p1 := posn1 bs
  have p2 := posn2 bs
  have p3 := posn3 bs
  unfold decFault
  rw [if_neg (by rintro ⟨a, b⟩; exact b (h0 a))]
  rcases k with _ | _ | _ | _ | k
  · change bs.length ≤ 6 at h1
    rw [if_pos h1]
  · have a0 := hp 0 (by omega)
    change 6 < _ ∧ cntAt bs 6 ≤ 6 at a0
    rw [p1] at h1
    rw [if_neg (by omega), if_neg (by omega), if_pos h1]
  · have a0 := hp 0 (by omega)
    change 6 < _ ∧ cntAt bs 6 ≤ 6 at a0
    have a1 := hp 1 (by omega)
    rw [p1] at a1
    change _ ∧ _ ≤ 4 at a1
    rw [p2] at h1
    rw [if_neg (by omega), if_neg (by omega), if_neg (by omega), if_neg (by omega), if_pos h1]
  · have a0 := hp 0 (by omega)
    change 6 < _ ∧ cntAt bs 6 ≤ 6 at a0
    have a1 := hp 1 (by omega)
    rw [p1] at a1
    change _ ∧ _ ≤ 4 at a1
    have a2 := hp 2 (by omega)
    rw [p2] at a2
    change _ ∧ _ ≤ 4 at a2
    rw [p3] at h1
    rw [if_neg (by omega), if_neg (by omega), if_neg (by omega), if_neg (by omega), if_neg (by omega), if_neg (by omega), if_pos h1]
  · omega
theorem passed_most {bs : List Int} {k : Nat} (hk : k < 4) (h : Passed bs k) (h1 : posn bs k < bs.length) (h2 : mostN k < cntAt bs (posn bs k)) : decFault bs = posn bs k := by
  obtain ⟨h0, hp⟩ := h
  have p1 := posn1 bs
  have p2 := posn2 bs
  have p3 := posn3 bs
  unfold decFault
  rw [if_neg (by rintro ⟨a, b⟩; exact b (h0 a))]
  rcases k with _ | _ | _ | _ | k
  · change 6 < bs.length at h1
    change 6 < cntAt bs 6 at h2
    rw [if_neg (by omega), if_pos h2]; rfl
  · have a0 := hp 0 (by omega)
    change 6 < _ ∧ cntAt bs 6 ≤ 6 at a0
    rw [p1] at h1 h2 ⊢
    change 4 < _ at h2
    rw [if_neg (by omega), if_neg (by omega), if_neg (by omega), if_pos h2]
  · have a0 := hp 0 (by omega)
    change 6 < _ ∧ cntAt bs 6 ≤ 6 at a0
    have a1 := hp 1 (by omega)
    rw [p1] at a1
    change _ ∧ _ ≤ 4 at a1
    rw [p2] at h1 h2 ⊢
    change 4 < _ at h2
    rw [if_neg (by omega), if_neg (by omega), if_neg (by omega), if_neg (by omega), if_neg (by omega), if_pos h2]
  · have a0 := hp 0 (by omega)
    change 6 < _ ∧ cntAt bs 6 ≤ 6 at a0
    have a1 := hp 1 (by omega)
    rw [p1] at a1
    change _ ∧ _ ≤ 4 at a1
    have a2 := hp 2 (by omega)
    rw [p2] at a2
    change _ ∧ _ ≤ 4 at a2
    rw [p3] at h1 h2 ⊢
    change 6 < _ at h2
    rw [if_neg (by omega), if_neg (by omega), if_neg (by omega), if_neg (by omega), if_neg (by omega), if_neg (by omega), if_neg (by omega), if_pos h2]
  · omega
theorem passed_end {bs : List Int} (h : Passed bs 4) : decFault bs = if bs.length < posn bs 4 then (bs.length : Int) else if posn bs 4 < bs.length then (posn bs 4 : Int) else -1 := by
  obtain ⟨h0, hp⟩ := h
  have a0 := hp 0 (by omega)
  change 6 < _ ∧ cntAt bs 6 ≤ 6 at a0
  have a1 := hp 1 (by omega)
  rw [posn1] at a1
  change _ ∧ _ ≤ 4 at a1
  have a2 := hp 2 (by omega)
  rw [posn2] at a2
  change _ ∧ _ ≤ 4 at a2
  have a3 := hp 3 (by omega)
  rw [posn3] at a3
  change _ ∧ _ ≤ 6 at a3
  rw [posn4]
  unfold decFault
  rw [if_neg (by rintro ⟨a, b⟩; exact b (h0 a)), if_neg (by omega), if_neg (by omega), if_neg (by omega), if_neg (by omega), if_neg (by omega), if_neg (by omega), if_neg (by omega), if_neg (by omega)]

theorem refByte (s : ByteArray) (g p : Nat) (w : World) (hg : w.heap[g]? = some (.cells #[.string s] 9)) (hp : p < s.size) (hs : s.size ≤ 1000) :
    Calls Try.prog 92 #[.int .i64 p, .pointer (some ⟨g, 0, none⟩)] w fun e w' => e = .returned (.int .i64 (nth (bytesOf s) p)) ∧ w = w' := by
  obtain ⟨cg, fg, zg⟩ := blk hg
  have hidx : ∀ W : World, (Instr.index 9 (.string s) (.int .i64 (p : Int))).run Try.prog W = .ok (.int .u8 (nth (bytesOf s) p)) W := fun W => by
    rw [run_index_string W 9 s .i64 p Try.underlying9, dif_pos ⟨by omega, by omega⟩, bytesOf_nth hp]; rfl
  have hbd := bytesOf_bd hp
  have hw : wrap64 (nth (bytesOf s) p) = nth (bytesOf s) p := IntWalk.wrap64_in _ (by omega)
  go_enter Try.func92, Try.ntmps92
  go_wp2_with fail
  refine bodyPost_ret (v := .int .i64 (nth (bytesOf s) p)) (by simp [results, Try.results92, go_sem, *]) rfl ?_
  exact ⟨rfl, rfl⟩
theorem refTwo (s : ByteArray) (g p : Nat) (w : World) (hg : w.heap[g]? = some (.cells #[.string s] 9)) (hp : p + 1 < s.size) (hs : s.size ≤ 1000) :
    Calls Try.prog 93 #[.int .i64 p, .pointer (some ⟨g, 0, none⟩)] w fun e w' => e = .returned (.int .i64 (twoB (bytesOf s) p)) ∧ ∃ n, w' = w.drewN n := by
  obtain ⟨cg, fg, zg⟩ := blk hg
  have hidx : ∀ W : World, (Instr.index 9 (.string s) (.int .i64 (p : Int))).run Try.prog W = .ok (.int .u8 (nth (bytesOf s) p)) W := fun W => by
    rw [run_index_string W 9 s .i64 p Try.underlying9, dif_pos ⟨by omega, by omega⟩, bytesOf_nth (by omega)]; rfl
  have hidx1 : ∀ W : World, (Instr.index 9 (.string s) (.int .i64 ((p : Int) + 1))).run Try.prog W = .ok (.int .u8 (nth (bytesOf s) (p + 1))) W := fun W => by
    rw [run_index_string W 9 s .i64 (p + 1) Try.underlying9, dif_pos ⟨by omega, by omega⟩, bytesOf_nth hp]; rfl
  have hbd := bytesOf_bd (show p < s.size by omega)
  have hbd1 := bytesOf_bd hp
  have hw : wrap64 (nth (bytesOf s) p) = nth (bytesOf s) p := IntWalk.wrap64_in _ (by omega)
  have hw1 : wrap64 (nth (bytesOf s) (p + 1)) = nth (bytesOf s) (p + 1) := IntWalk.wrap64_in _ (by omega)
  go_enter Try.func93, Try.ntmps93
  go_wp2_with fail
  go_quiet (fail)
  go_wp2_with fail
  refine bodyPost_ret (v := .int .i64 (256 * nth (bytesOf s) p + nth (bytesOf s) (p + 1))) (by simp [results, Try.results93, go_sem, *]) rfl ?_
  exact ⟨rfl, _, rfl⟩
/-- the loops of a body, in the text's order -/
def loopsOf : Code → List Code
  | .loop c => .loop c :: loopsOf c
  | .seq a b => loopsOf a ++ loopsOf b
  | .cond _ a b => loopsOf a ++ loopsOf b
  | .block _ c => loopsOf c
  | .scope c => loopsOf c
  | _ => []
noncomputable def decLoop (k : Nat) : Code := ((((Try.f46.body.map loopsOf).getD [])[k]?).getD .skip)
theorem enters_refByte : Enters Try.prog 92 := fun _ _ => by kernel_rfl
theorem enters_refTwo : Enters Try.prog 93 := fun _ _ => by kernel_rfl
/-- all below N but one block -/
def Exc (gc N : Nat) : Nat → Prop := fun b => b ≠ gc ∧ b < N
theorem cell_heap {w w' : World} {b : Nat} (h : w'.heap[b]? = w.heap[b]?) (o : Nat) : w'.cell? ⟨b, o, none⟩ = w.cell? ⟨b, o, none⟩ := by
  unfold World.cell?; simp only [h]
end Go.Proofs.Ytinlmkhlgclbfaa
