/-
  DecA: contracts of the reader of bytes: one, two.
-/
import Derived.Test.YtinlmkhlgclbfaaEncB
import Derived.Recover
import Derived.Laws.BitsAllLaws
namespace Go.Proofs.Ytinlmkhlgclbfaa
open Go.RowKit
set_option maxRecDepth 100000
set_option maxHeartbeats 1000000

/-- a string as ints -/
def bytesOf (s : ByteArray) : List Int := s.data.toList.map fun b => (b.toNat : Int)
theorem bytesOf_length (s : ByteArray) : (bytesOf s).length = s.size := by unfold bytesOf; rw [List.length_map, Array.length_toList]; rfl
theorem bytesOf_nth {s : ByteArray} {p : Nat} (h : p < s.size) : nth (bytesOf s) p = ((s[p]'h).toNat : Int) := by
  rw [nth_eq (by rw [bytesOf_length]; exact h)]
  simp [bytesOf, ByteArray.getElem_eq_getElem_data]
theorem bytesOf_bd {s : ByteArray} {p : Nat} (h : p < s.size) : 0 ≤ nth (bytesOf s) p ∧ nth (bytesOf s) p ≤ 255 := by
  rw [bytesOf_nth h]
  have := (s[p]'h).toNat_lt
  omega
/-- a reader lies in block g -/
def Rd (g : Nat) (w : World) (s : ByteArray) (p : Nat) : Prop := w.heap[g]? = some (.cells #[.string s, .int .i64 p] 161)
/-- the panic that a fault is -/
def badChain (n : Nat) := ([{ v := .iface 157 (.int .i64 n), recovered := false }] : List PanicEntry)

theorem readerOne (s : ByteArray) (g p : Nat) (w : World) (hg : Rd g w s p) (hp : p < s.size) (hs : s.size ≤ 1000) :
    Calls Try.prog 131 #[.pointer (some ⟨g, 0, none⟩)] w fun en w' => en = .returned (.int .i64 (nth (bytesOf s) p)) ∧ Rd g w' s (p + 1) ∧ WrKeep g none w w' := by
  obtain ⟨cg, fg, zg⟩ := blk hg
  have hd : decide (s.size ≤ p) = false := by simp; omega
  have hidx : ∀ W : World, (Instr.index 9 (.string s) (.int .i64 (p : Int))).run Try.prog W = .ok (.int .u8 (nth (bytesOf s) p)) W := fun W => by
    rw [run_index_string W 9 s .i64 p Try.underlying9, dif_pos ⟨by omega, by omega⟩, bytesOf_nth hp]; rfl
  have hbd := bytesOf_bd hp
  have hw : wrap64 (nth (bytesOf s) p) = nth (bytesOf s) p := IntWalk.wrap64_in _ (by omega)
  go_enter Try.func131, Try.ntmps131
  go_wp2_with fail
  go_quiet (fail)
  go_wp2_with fail
  go_quiet (fail)
  go_wp2_with fail
  refine bodyPost_ret (v := .int .i64 (nth (bytesOf s) p)) (by simp [results, Try.results131, go_sem, *]) rfl ?_
  refine ⟨rfl, ?_, ?_, fun b hb hgb _ => ?_⟩
  · refine heap_drewN ?_
    refine (heap_set_same (heap_drewN hg)).trans ?_
    simp
  · (repeat (first | with_reducible exact Below.refl _ _ | with_reducible assumption | (with_reducible refine Below.drew ?_) | (with_reducible refine Below.alloc ?_ ?_ _; rotate_left; (first | omega | (simp <;> omega))) | (with_reducible refine Below.setCell ?_ ?_ _; rotate_left; (first | omega | (simp <;> omega))) | (with_reducible refine below_drewN ?_ _) | (refine Below.trans ?_ (Below.mono (by with_reducible assumption) (by first | omega | (simp <;> omega))))))
  · exact heap_drewN (heap_set_far (heap_drewN rfl) hgb)

theorem readerOneEnd (s : ByteArray) (g p : Nat) (w : World) (hg : Rd g w s p) (hp : s.size ≤ p) (hs : p ≤ 1000) :
    Calls Try.prog 131 #[.pointer (some ⟨g, 0, none⟩)] w fun en w' => en = .panicked (badChain s.size) ∧ Below g w w' := by
  obtain ⟨cg, fg, zg⟩ := blk hg
  have hd : decide (s.size ≤ p) = true := by simp; omega
  go_enter Try.func131, Try.ntmps131
  go_wp2_with fail
  go_quiet (fail)
  go_wp2_with fail
  exact ⟨rfl, rfl, (by repeat (first | with_reducible exact Below.refl _ _ | with_reducible assumption | (with_reducible refine Below.drew ?_) | (with_reducible refine Below.alloc ?_ ?_ _; rotate_left; (first | omega | (simp <;> omega))) | (with_reducible refine Below.setCell ?_ ?_ _; rotate_left; (first | omega | (simp <;> omega))) | (with_reducible refine below_drewN ?_ _) | (refine Below.trans ?_ (Below.mono (by with_reducible assumption) (by first | omega | (simp <;> omega))))))⟩

theorem or_two (a b : Int) (ha : 0 ≤ a ∧ a ≤ 255) (hb : 0 ≤ b ∧ b ≤ 255) : bits .or .i64 (a * 256) b = 256 * a + b := by
  obtain ⟨m, rfl⟩ := Int.eq_ofNat_of_zero_le ha.1
  obtain ⟨n, rfl⟩ := Int.eq_ofNat_of_zero_le hb.1
  have h : (256 * m ||| n : Nat) = 256 * m + n := by
    have := Nat.shiftLeft_add_eq_or_of_lt (i := 8) (b := n) (by omega) m
    rw [Nat.shiftLeft_eq] at this
    rw [Nat.mul_comm 256 m]
    exact this.symm
  have e : ((m : Int) * 256) = ((256 * m : Nat) : Int) := by push_cast; omega
  rw [e]
  have hv : (BitVec.ofInt 64 ((256 * m : Nat) : Int) ||| BitVec.ofInt 64 ((n : Nat) : Int)).toNat = 256 * m + n := by
    rw [BitVec.toNat_or, BitVec.ofInt_natCast, BitVec.ofInt_natCast, BitVec.toNat_ofNat, BitVec.toNat_ofNat, Nat.mod_eq_of_lt (by omega), Nat.mod_eq_of_lt (by omega), h]
  show IntKind.i64.wrap ((BitVec.ofInt 64 ((256 * m : Nat) : Int) ||| BitVec.ofInt 64 ((n : Nat) : Int)).toNat : Int) = _
  rw [hv, IntWalk.i64_in _ (by omega)]
  omega
theorem readerTwo (s : ByteArray) (g p : Nat) (w : World) (hg : Rd g w s p) (hp : p + 1 < s.size) (hs : s.size ≤ 1000) :
    Calls Try.prog 138 #[.pointer (some ⟨g, 0, none⟩)] w fun en w' => en = .returned (.int .i64 (twoB (bytesOf s) p)) ∧ Rd g w' s (p + 2) ∧ WrKeep g none w w' := by
  have hb1 := bytesOf_bd (show p < s.size by omega)
  have hb2 := bytesOf_bd hp
  have hor := or_two _ _ hb1 hb2
  go_enter Try.func138, Try.ntmps138
  go_wp2_with fail
  go_at_call 131
  refine (readerOne s g p w hg (by omega) hs).mono ?_
  rintro e w1 ⟨rfl, hg1, hk1⟩
  go_wp2_with fail
  go_at_call 131
  refine (readerOne s g (p + 1) w1 hg1 hp hs).mono ?_
  rintro e w2 ⟨rfl, hg2, hk2⟩
  go_wp2_with fail
  refine bodyPost_ret (v := .int .i64 (256 * nth (bytesOf s) p + nth (bytesOf s) (p + 1))) (by simp [results, Try.results138, go_sem, *]) rfl ?_
  exact ⟨rfl, hg2, hk1.trans (.inl rfl) hk2⟩

/-- a call that gives up -/
def Gives (g n : Nat) (w : World) (en : Ending) (w' : World) : Prop := en = .panicked (badChain n) ∧ Below g w w'
theorem readerTwoEnd (s : ByteArray) (g p : Nat) (w : World) (hg : Rd g w s p) (hp : s.size ≤ p + 1) (hs : p ≤ 900) (hs2 : s.size ≤ 1000) :
    Calls Try.prog 138 #[.pointer (some ⟨g, 0, none⟩)] w (Gives g s.size w) := by
  by_cases h : p < s.size
  · go_enter Try.func138, Try.ntmps138
    go_wp2_with fail
    go_at_call 131
    refine (readerOne s g p w hg h hs2).mono ?_
    rintro e w1 ⟨rfl, hg1, hk1⟩
    go_wp2_with fail
    go_at_call 131
    refine (readerOneEnd s g (p + 1) w1 hg1 hp (by omega)).mono ?_
    rintro e w2 ⟨rfl, hb2⟩
    exact ⟨rfl, rfl, hk1.below.trans hb2⟩
  · go_enter Try.func138, Try.ntmps138
    go_wp2_with fail
    go_at_call 131
    refine (readerOneEnd s g p w hg (by omega) (by omega)).mono ?_
    rintro e w2 ⟨rfl, hb2⟩
    exact ⟨rfl, rfl, hb2⟩
end Go.Proofs.Ytinlmkhlgclbfaa
