/- ArrP MailB MemO -/
import Derived.Test.YtinlmkhlgclbfabTsA02
import Derived.Test.YtinlmkhlgclbfabTsA03
import Derived.Test.YtinlmkhlgclbfabTsA04
import Derived.Test.YtinlmkhlgclbfabTsA05
section
namespace Go.Proofs.Ytinlmkhlgclbfab
open Go.RowKit

theorem tk_snoc {T : Type} [Inhabited T] {xs : List T} {k : Nat} (h : k < xs.length) : xs.take (k + 1) = xs.take k ++ [nth xs k] := by
  rw [List.take_add_one, nth_eq h, List.getElem?_eq_getElem h]; rfl
theorem tk_len {T : Type} {xs : List T} {k : Nat} (h : k ≤ xs.length) : (xs.take k).length = k := by rw [List.length_take]; omega

/-- does an arrival count? -/
def hitA (owners : List Int) (dom t0 t1 : Int) (a : TArr) : Bool := nth owners a.line.toNat == dom && decide (t0 ≤ a.t) && decide (a.t < t1)
def cameN (owners : List Int) (dom t0 t1 : Int) (l : List TArr) (j : Nat) : Nat := (l.filter fun a => a.line == (j : Int) && hitA owners dom t0 t1 a).length
/-- C2 -/
def cameOf (owners : List Int) (dom t0 t1 : Int) (l : List TArr) : List Int := (List.range owners.length).map fun j => (cameN owners dom t0 t1 l j : Int)

theorem cameOf_length (owners : List Int) (dom t0 t1 : Int) (l : List TArr) : (cameOf owners dom t0 t1 l).length = owners.length := by simp [cameOf]
theorem nth_cameOf {owners : List Int} {dom t0 t1 : Int} {l : List TArr} {j : Nat} (h : j < owners.length) : nth (cameOf owners dom t0 t1 l) j = cameN owners dom t0 t1 l j := by
  rw [nth_eq (by rw [cameOf_length]; exact h)]; simp [cameOf]
theorem cameN_le (owners : List Int) (dom t0 t1 : Int) (l : List TArr) (j : Nat) : cameN owners dom t0 t1 l j ≤ l.length := List.length_filter_le _ _
theorem cameOf_nil (owners : List Int) (dom t0 t1 : Int) : cameOf owners dom t0 t1 [] = List.replicate owners.length 0 := by
  refine List.ext_getElem (by simp [cameOf]) fun i h1 h2 => ?_
  simp [cameOf, cameN]
theorem cameN_snoc (owners : List Int) (dom t0 t1 : Int) (l : List TArr) (a : TArr) (j : Nat) : cameN owners dom t0 t1 (l ++ [a]) j = cameN owners dom t0 t1 l j + (if a.line = (j : Int) ∧ hitA owners dom t0 t1 a = true then 1 else 0) := by
  unfold cameN
  rw [List.filter_append, List.length_append]
  congr 1
  by_cases h1 : a.line = (j : Int)
  · cases h2 : hitA owners dom t0 t1 a <;> simp [h1, h2]
  · simp [h1]
theorem cameOf_miss {owners : List Int} {dom t0 t1 : Int} {l : List TArr} {a : TArr} (h : hitA owners dom t0 t1 a = false) : cameOf owners dom t0 t1 (l ++ [a]) = cameOf owners dom t0 t1 l := by
  unfold cameOf
  refine List.map_congr_left fun j _ => ?_
  rw [cameN_snoc, h]; simp
theorem cameOf_hit {owners : List Int} {dom t0 t1 : Int} {l : List TArr} {a : TArr} {m : Nat} (hm : a.line = (m : Int)) (hlt : m < owners.length) (h : hitA owners dom t0 t1 a = true) :
    cameOf owners dom t0 t1 (l ++ [a]) = (cameOf owners dom t0 t1 l).set m (nth (cameOf owners dom t0 t1 l) m + 1) := by
  rw [nth_cameOf hlt]
  refine List.ext_getElem (by simp [cameOf]) fun i h1 h2 => ?_
  rw [List.getElem_set]
  simp only [cameOf, List.getElem_map, List.getElem_range]
  rw [cameN_snoc, h, hm]
  by_cases e : m = i
  · subst e; simp
  · rw [if_neg e, if_neg (by omega)]; simp

/-- what arrives from one time to another one, and on, arrives in all -/
theorem cameN_add (owners : List Int) (dom t0 t1 t2 : Int) (l : List TArr) (j : Nat) (h1 : t0 ≤ t1) (h2 : t1 ≤ t2) : cameN owners dom t0 t1 l j + cameN owners dom t1 t2 l j = cameN owners dom t0 t2 l j := by
  induction l with
  | nil => rfl
  | cons a l ih =>
    have hc : ∀ t0 t1, cameN owners dom t0 t1 (a :: l) j = cameN owners dom t0 t1 l j + (if a.line = (j : Int) ∧ hitA owners dom t0 t1 a = true then 1 else 0) := by
      intro t0 t1
      unfold cameN
      rw [List.filter_cons]
      by_cases h1 : a.line = (j : Int)
      · cases h2 : hitA owners dom t0 t1 a <;> simp [h1, h2]
      · simp [h1]
    rw [hc, hc, hc]
    have key : (if a.line = (j : Int) ∧ hitA owners dom t0 t1 a = true then 1 else 0) + (if a.line = (j : Int) ∧ hitA owners dom t1 t2 a = true then 1 else 0) = (if a.line = (j : Int) ∧ hitA owners dom t0 t2 a = true then 1 else 0) := by
      unfold hitA
      by_cases e1 : a.line = (j : Int)
      · cases e2 : (nth owners a.line.toNat == dom)
        · simp
        · simp only [e1, Bool.true_and, Bool.and_eq_true, decide_eq_true_eq, true_and]
          (repeat' split) <;> omega
      · simp [e1]
    omega
end Go.Proofs.Ytinlmkhlgclbfab
end

section
namespace Go.Proofs.Ytinlmkhlgclbfab
open Go.RowKit
set_option maxRecDepth 100000
set_option maxHeartbeats 400000

theorem tyInt : TyS Try.prog 23 3 (.int .i64 0) 1 8 := ⟨Try.underlying23, info_of (by kernel_rfl), rfl, by decide⟩

theorem refCheckRing (vs : List Int) (lost size : Int) (A : Option Addr) (c : Nat) (B : Nat) (w : World) (hB : B ≤ w.heap.size) (hs : Sl cInt (Low B) w A c vs) :
    Calls Try.prog 55 #[.agg #[.slice A vs.length c, .int .i64 lost], .int .i64 size] w fun e w' => e = .returned (.int .i64 (checkRing vs lost size)) ∧ Below w.heap.size w w' := by
  have hm : vs.length ≤ maxLen := Nat.le_trans hs.cap hs.max
  unfold maxLen at hm
  have H := fun W (h : Below w.heap.size w W) => refAreValues vs A c B W (Nat.le_trans hB h.size) (hs.next hB h)
  clear hs
  have hb0 : Below w.heap.size w (w.alloc (.cells #[.slice A vs.length c, .int .i64 lost] 113)) := byB
  go_enter Try.func55, Try.ntmps55
  go_wp2_with (first | (go_at_call 48; refine (refBetween _ _ _ _).mono ?_; rintro e w' ⟨rfl, rfl⟩) | (go_at_call 56; refine (H _ hb0).mono ?_; rintro e w1 ⟨rfl, rfl⟩))
  all_goals go_ret
  all_goals refine ⟨ret_int ?_, hb0⟩
  all_goals simp_all [checkRing]

theorem refSameInts (xs ys : List Int) (A A' : Option Addr) (c c' : Nat) (B : Nat) (w : World) (hB : B ≤ w.heap.size) (hs : Sl cInt (Low B) w A c xs) (hs' : Sl cInt (Low B) w A' c' ys) :
    Calls Try.prog 103 #[.slice A xs.length c, .slice A' ys.length c'] w fun e w' => e = .returned (.bool (decide (xs = ys))) ∧ Below w.heap.size w w' := by
  have hm : xs.length ≤ maxLen := Nat.le_trans hs.cap hs.max
  have hm' : ys.length ≤ maxLen := Nat.le_trans hs'.cap hs'.max
  unfold maxLen at hm hm'
  by_cases hl : xs.length = ys.length
  · have hlb : (((xs.length : Nat) : Int) != ((ys.length : Nat) : Int)) = false := by simp [hl]
    have HL := Lib.hid hl
    clear hl
    go_enter Try.func103, Try.ntmps103
    go_wp2
    go_loopw [5] (fun i wr => ∃ k : Nat, k ≤ xs.length ∧ i = .int .i64 k ∧ Hid (∀ j, j < k → nth xs j = nth ys j) ∧ Below w.heap.size w wr) (fun i _ => xs.length - (intOf i).toNat)
    case atStart => exact ⟨0, Nat.zero_le _, rfl, (fun j hj => by omega), Below.refl _ _⟩
    case round =>
      obtain ⟨k, hk, rfl, hp, hbw⟩ := hrel
      by_cases hlt : k < xs.length
      · have hlt' : k < ys.length := by have := HL.out; omega
        obtain ⟨b, o, rfl, hI, hcell⟩ := (hs.next hB hbw).at_int hlt
        obtain ⟨b', o', rfl, hI', hcell'⟩ := (hs'.next hB hbw).at_int hlt'
        have h0 : (0 : Int) ≤ k := by omega
        have h1 : (k : Int) < xs.length := by omega
        have h2 : (k : Int) < ys.length := by omega
        go_wp2_with fail
        go_quiet (fail)
        go_wp2
        · have hne : (nth xs k != nth ys k) = true := by assumption
          go_ret
          refine ⟨ret_bool ?_, below_drewN hbw _⟩
          rw [eq_comm, decide_eq_false_iff_not]
          intro e; subst e; simp at hne
        · have hne : (nth xs k != nth ys k) = false := by assumption
          go_roundw
          case rel => exact ⟨k + 1, by omega, by go_num, (fun j hj => by
            by_cases e : j = k
            · subst e; simpa using hne
            · exact hp.out j (by omega)), below_drewN hbw _⟩
          case measure => simp [intOf]; omega
      · go_wp2
        go_ret
        refine ⟨ret_bool ?_, hbw⟩
        rw [eq_comm, decide_eq_true_iff]
        refine List.ext_getElem HL.out fun j h1 h2 => ?_
        rw [← nth_eq h1, ← nth_eq h2]
        exact hp.out j (by omega)
  · have hlb : (((xs.length : Nat) : Int) != ((ys.length : Nat) : Int)) = true := by simp; omega
    have HL := Lib.hid hl
    clear hl
    go_enter Try.func103, Try.ntmps103
    go_wp2
    go_ret
    refine ⟨ret_bool ?_, Below.refl _ _⟩
    rw [eq_comm, decide_eq_false_iff_not]
    intro e
    exact HL.out (by rw [e])

theorem refSameRing (xs ys : List Int) (lx ly : Int) (A A' : Option Addr) (c c' : Nat) (B : Nat) (w : World) (hB : B ≤ w.heap.size) (hs : Sl cInt (Low B) w A c xs) (hs' : Sl cInt (Low B) w A' c' ys) :
    Calls Try.prog 104 #[.agg #[.slice A xs.length c, .int .i64 lx], .agg #[.slice A' ys.length c', .int .i64 ly]] w fun e w' => e = .returned (.bool (decide (lx = ly) && decide (xs = ys))) ∧ Below w.heap.size w w' := by
  have H := fun W (h : Below w.heap.size w W) => refSameInts xs ys A A' c c' B W (Nat.le_trans hB h.size) (hs.next hB h) (hs'.next hB h)
  clear hs hs'
  by_cases hl : lx = ly
  · have hlb : (lx == ly) = true := by simp [hl]
    have HL := Lib.hid hl
    clear hl
    go_enter Try.func104, Try.ntmps104
    go_wp2_with (go_at_call 103; refine (H _ byB).mono ?_; rintro e w1 ⟨rfl, hb1⟩)
    go_ret
    refine ⟨ret_bool (by simp [HL.out]), ?_⟩
    exact Below.trans byB (hb1.mono (by simp; omega))
  · have hlb : (lx == ly) = false := by simp [hl]
    have HL := Lib.hid hl
    clear hl
    go_enter Try.func104, Try.ntmps104
    go_wp2
    go_ret
    exact ⟨ret_bool (by simp [HL.out]), byB⟩

/-- a new row of the call's own comes back; nothing that was has turned -/
def RetRow (e k n : Nat) (cells : List Value) (w : World) (en : Ending) (w' : World) : Prop := ∃ A c, en = .returned (.slice A n c) ∧ w'.ownsRow w.heap.size e k (.slice A n c) n cells ∧ Below w.heap.size w w'

theorem cloneInt (xs : List Int) (A : Option Addr) (c : Nat) (B : Nat) (w : World) (hB : B ≤ w.heap.size) (hs : Sl cInt (Low B) w A c xs) (hb : xs.length * 8 ≤ 140737488355328) :
    Calls Try.prog 101 #[.slice A xs.length c] w (RetRow 3 1 xs.length (xs.flatMap fun n => [Value.int .i64 n]) w) := by
  have hm : xs.length ≤ maxLen := Nat.le_trans hs.cap hs.max
  cases A with
  | none =>
    have h0 : xs = [] := List.eq_nil_of_length_eq_zero (by have := hs.nil rfl; have := hs.cap; omega)
    subst h0
    have hq := fun w => Lib.run_eql_slice_nil (P := Try.prog) w 23 3 none 0 c 0 0 Try.underlying23
    go_enter Try.func101, Try.ntmps101
    go_wp2
    go_ret
    exact ⟨_, _, rfl, World.ownsRow_nil _ _ _ _, Below.refl _ _⟩
  | some ad =>
    have hq := fun w => Lib.run_eql_slice_nil (P := Try.prog) w 23 3 (some ad) xs.length c 0 0 Try.underlying23
    have hsrc1 := Lib.hid ((hs.next hB (w' := w.alloc (.cells #[] 3)) byB).src (f := fun n => [Value.int .i64 n]))
    clear hs
    have ho := World.ownsRow_made w (base := w.heap.size) (e := 3) (size := 1) #[] 0 (Nat.le_refl _) (by unfold maxLen; omega) rfl
    go_enter Try.func101, Try.ntmps101
    go_wp2_with (at_builtin; refine wpList_app rfl (.tmp 5) (.tmp 6) _ rfl w.heap.size tyInt _ 0 [] (by rfl) ho (some ad) xs.length c (xs.flatMap fun n => [Value.int .i64 n]) (by rfl) hsrc1.out (one_int _) ?_ ?_ ?_ ?_; (omega); (omega); (simp); intro A1 c1 w1 hown1 hg1 hat1)
    go_ret
    simp only [Nat.zero_add, List.nil_append] at hown1
    exact ⟨A1, c1, by simp, hown1, grown_below byB (by simp) ho hg1⟩
end Go.Proofs.Ytinlmkhlgclbfab
end

section
namespace Go.Proofs.Ytinlmkhlgclbfab
open Go.RowKit

theorem own_keep {w w' : World} {base : Nat} {e : TypeId} {size : Nat} {v : Value} {n : Nat} {xs : List Value} (h : w.ownsRow base e size v n xs) (hk : ∀ b, v.ownBlock = some b → w'.heap[b]? = w.heap[b]?) : w'.ownsRow base e size v n xs := by
  obtain ⟨h1, h2⟩ := h
  refine ⟨h1, ?_⟩
  rcases h2 with h2 | ⟨g, cap, cur, rfl, hb, hg, h3⟩
  · exact Or.inl h2
  · exact Or.inr ⟨g, cap, cur, rfl, hb, (hk g rfl).trans hg, h3⟩
theorem own_lt {w : World} {base : Nat} {e : TypeId} {size : Nat} {v : Value} {n : Nat} {xs : List Value} (h : w.ownsRow base e size v n xs) : ∀ b, v.ownBlock = some b → base ≤ b ∧ b < w.heap.size := by
  intro b hb
  obtain ⟨_, h2⟩ := h
  rcases h2 with ⟨rfl, _⟩ | ⟨g, cap, cur, rfl, hbb, hg, _⟩
  · cases hb
  · cases hb
    exact ⟨hbb, (Array.getElem?_eq_some_iff.1 hg).1⟩
/-- blocks that one value owns -/
def Own (v : Value) : Nat → Prop := fun b => v.ownBlock = some b
theorem own_keepI {w w' : World} {base : Nat} {e : TypeId} {size : Nat} {v : Value} {n : Nat} {xs : List Value} (h : w.ownsRow base e size v n xs) (hk : KeepI (Own v) w w') : w'.ownsRow base e size v n xs := own_keep h hk
theorem KeepI.grown {I : Nat → Prop} {w v w' : World} {row : Option Nat} (h : KeepI I w v) (hg : v.grownBy w' row) (hI : ∀ k, I k → k < v.heap.size ∧ row ≠ some k) : KeepI I w w' :=
  fun k hk => (hg.block k (hI k hk).1 (Ne.symm (hI k hk).2)).trans (h k hk)
end Go.Proofs.Ytinlmkhlgclbfab
end
