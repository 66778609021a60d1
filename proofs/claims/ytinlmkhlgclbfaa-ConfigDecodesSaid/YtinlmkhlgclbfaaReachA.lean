/-
  ReachA: contracts of config.Reaches, config.Reach.
-/
import Derived.Test.YtinlmkhlgclbfaaConfB
import Derived.Test.YtinlmkhlgclbfaaReachP
import Derived.Test.YtinlmkhlgclbfaaMemS
import Derived.Test.YtinlmkhlgclbfaaCacheB
import Derived.Test.YtinlmkhlgclbfaaReachB
namespace Go.Proofs.Ytinlmkhlgclbfaa
open Go.RowKit
set_option maxRecDepth 100000
set_option maxHeartbeats 1000000

theorem tyBool : TyS Try.prog 78 4 (.bool false) 1 1 := ⟨Try.underlying78, info_of (by kernel_rfl), rfl, by decide⟩
theorem tyBools : TyS Try.prog 74 78 (.slice none 0 0) 1 24 := ⟨Try.underlying74, info_of (by kernel_rfl), rfl, by decide⟩

/-- the cells of a row of bools -/
def boolCells (xs : List Bool) : Array Value := (xs.map Value.bool).toArray
theorem boolCells_made (n : Nat) : madeCells (Value.bool false).cells (n * 1) = boolCells (List.replicate n false) := by
  apply Array.toList_inj.1
  have := madeCells_flat #[Value.bool false] n (by simp)
  rw [show (#[Value.bool false] : Array Value).size = 1 from rfl] at this
  rw [show (Value.bool false).cells = #[Value.bool false] from rfl, this]
  unfold boolCells
  simp
theorem boolCells_at {xs : List Bool} {k : Nat} (h : k < xs.length) : (boolCells xs)[k]? = some (.bool (nth xs k)) := by
  rw [nth_eq h]; simp [boolCells, h]
theorem boolCells_set (xs : List Bool) (k : Nat) (v : Bool) : (boolCells xs).setIfInBounds k (.bool v) = boolCells (xs.set k v) := by
  simp [boolCells, List.map_set]
theorem boolCells_size (xs : List Bool) : (boolCells xs).size = xs.length := by simp [boolCells]
theorem sl_bools {I : Nat → Prop} {w : World} {g : Nat} {t : TypeId} {xs : List Bool} (h : w.heap[g]? = some (.cells (boolCells xs) t (0, 0))) (hI : I g) (hm : xs.length ≤ maxLen) : Sl cBool I w (some ⟨g, 0, none⟩) xs.length xs := by
  refine ⟨Nat.le_refl _, hm, fun e => (by cases e), fun i hi => ⟨g, 0, [.bool xs[i]], rfl, hI, rfl, fun j u hu => ?_⟩⟩
  rw [(blk h).1]
  rcases j with _ | j
  · simp at hu; subst hu
    show (boolCells xs)[0 + i * 1 + 0]? = _
    rw [Nat.zero_add, Nat.mul_one, Nat.add_zero, boolCells_at hi, nth_eq hi]
  · simp at hu

/-- a row of bools in a block of its own -/
def oRow : OCod (List Bool) where
  cod := cBool.slice
  rel := fun F w cs xs => ∃ g, cs = [.slice (some ⟨g, 0, none⟩) xs.length xs.length] ∧ F g ∧ w.heap[g]? = some (.cells (boolCells xs) 4 (0, 0)) ∧ xs.length ≤ maxLen
  toRead := fun ⟨_, h, hF, hg, hm⟩ => ⟨_, _, h, sl_bools hg hF hm⟩
  keep := fun ⟨g, h, hF, hg, hm⟩ hk => ⟨g, h, hF, (hk g hF).trans hg, hm⟩
  mono := fun ⟨g, h, hF, hg, hm⟩ hk => ⟨g, h, hk g hF, hg, hm⟩

/-- rows, each by what it is -/
def RowsAre (n : Nat) (R : List (List Bool)) (f : Nat → List Bool) : Prop := R.length = n ∧ ∀ j, j < n → nth R j = f j
def rowsTo (n : Nat) (f : Nat → List Bool) : List (List Bool) := (List.range n).map f
theorem rowsTo_length (n : Nat) (f : Nat → List Bool) : (rowsTo n f).length = n := by simp [rowsTo]
theorem rowsTo_at {n : Nat} {f : Nat → List Bool} {j : Nat} (h : j < n) : nth (rowsTo n f) j = f j := by rw [nth_eq (by simpa [rowsTo] using h)]; simp [rowsTo]
theorem rowsTo_snoc (n : Nat) (f : Nat → List Bool) : rowsTo (n + 1) f = rowsTo n f ++ [f n] := by simp [rowsTo, List.range_succ]
theorem rows_are {n : Nat} {R : List (List Bool)} {f : Nat → List Bool} (h : RowsAre n R f) : R = rowsTo n f := by
  refine List.ext_getElem (by rw [h.1, rowsTo_length]) fun i h1 h2 => ?_
  rw [← nth_eq h1, ← nth_eq h2, h.2 i (by rw [← h.1]; exact h1), rowsTo_at (by rw [← h.1]; exact h1)]

/-- B4 -/
def reachRows (c : TCfg) : List (List Bool) := rowsTo c.doms.toNat (reachRow c)
def RetRows (R : List (List Bool)) (w : World) (e : Ending) (w' : World) : Prop := ∃ A n, e = .returned (.slice A R.length n) ∧ Sl cBool.slice (Rng w.heap.size w'.heap.size) w' A n R ∧ Below w.heap.size w w'
def RetRowsE (R : List (List Bool)) (er : Int) (w : World) (e : Ending) (w' : World) : Prop := ∃ A n, e = .returned (.tuple #[.slice A R.length n, .int .i64 er]) ∧ Sl cBool.slice (Rng w.heap.size w'.heap.size) w' A n R ∧ Below w.heap.size w w'

set_option maxHeartbeats 16000000 in
theorem configReaches (c : TCfg) (ok : CfgOk c) (S : TCfgS) (B : Nat) (w : World) (hB : B ≤ w.heap.size) (hs : TCfg.At (Low B) w c S) :
    Calls Try.prog 83 #[.agg #[.int .i64 c.sets, .int .i64 c.ways, .int .i64 c.doms, .int .i64 c.pad, .int .i64 c.quantum, .slice S.a0 c.slots.length S.n0, .slice S.a1 c.owners.length S.n1, .slice S.a2 c.chans.length S.n2, .slice S.a3 c.tasks.length S.n3]] w (RetRows (reachRows c) w) := by
  have hch := ok.nchans
  have HC := Lib.hid ok.chan
  obtain ⟨d1, d4⟩ := ok.doms
  have hdef : reachRows c = rowsTo c.doms.toNat (fun j => iterR c.chans c.doms.toNat (unitR c.doms.toNat j)) := rfl
  rw [hdef]
  clear hdef ok
  obtain ⟨q0, q1, q2, q3, q4, sl, ow, ch, tk⟩ := c
  dsimp only at d1 d4 hch HC hs ⊢
  obtain ⟨n, rfl⟩ := Int.eq_ofNat_of_zero_le (show 0 ≤ q2 by omega)
  rw [Int.toNat_natCast]
  have hn4 : n ≤ 4 := by omega
  have hn1 : 1 ≤ n := by omega
  have hmk := make_run tyBool n (by omega) (by omega)
  rw [boolCells_made] at hmk
  (obtain ⟨a0, n0, a1, n1, a2, n2, a3, n3⟩ := S; obtain ⟨hs0, hs1, hs2, hs3⟩ := hs; dsimp only at hs0 hs1 hs2 hs3 ⊢)
  clear hs0 hs1 hs3 d1 d4
  go_enter Try.func83, Try.ntmps83
  go_wp2_with fail
  go_loopw [3, 11] (fun ov iv wr => ∃ (i : Nat) (A1 : Option Addr) (c1 : Nat), i ≤ n ∧ iv = .int .i64 i ∧ ov = .slice A1 i c1 ∧ wr.heap[w.heap.size]? = some (.cells #[.int .i64 q0, .int .i64 q1, .int .i64 n, .int .i64 q3, .int .i64 q4, .slice a0 sl.length n0, .slice a1 ow.length n1, .slice a2 ch.length n2, .slice a3 tk.length n3] 63) ∧
    OSl oRow 78 (Rng (w.heap.size + 1) wr.heap.size) wr (.slice A1 i c1) (rowsTo i (unitR n)) ∧ Below w.heap.size w wr) (fun _ iv _ => n - (intOf iv).toNat)
  case atStart => exact ⟨0, none, 0, Nat.zero_le _, rfl, rfl, (by (repeat (first | with_reducible exact heap_set2 (by with_reducible assumption) | with_reducible exact heap_set2 (heapAt _ _ _ rfl) | with_reducible exact heap_set1 (by with_reducible assumption) | with_reducible exact heap_set1 (heapAt _ _ _ rfl) | with_reducible assumption | (with_reducible refine heapAt _ _ _ ?_; first | rfl | (first | omega | (simp <;> omega))) | (with_reducible refine heap_drew ?_) | (with_reducible refine heap_drewN ?_) | (with_reducible refine (heap_alloc_old _ _ ?_).trans ?_; (first | omega | (simp <;> omega))) | (with_reducible refine heap_set_far ?_ ?_; rotate_left; (first | omega | (simp <;> omega)))))), OSl.nil _ _ _ _, (by repeat (first | with_reducible exact Below.refl _ _ | with_reducible assumption | (with_reducible refine Below.drew ?_) | (with_reducible refine Below.alloc ?_ ?_ _; rotate_left; (first | omega | (simp <;> omega))) | (with_reducible refine Below.setCell ?_ ?_ _; rotate_left; (first | omega | (simp <;> omega))) | (with_reducible refine below_drewN ?_ _) | (refine Below.trans ?_ (Below.mono (by with_reducible assumption) (by first | omega | (simp <;> omega))))))⟩
  case round =>
    obtain ⟨i, A1, c1, hi, rfl, rfl, hp, hO, hbr⟩ := hrel
    obtain ⟨cp, fp, zp⟩ := blk hp
    have so := hbr.size
    by_cases hlt : i < n
    · have hi0 : (0 : Int) ≤ i := by omega
      have hi1 : (i : Int) < n := by omega
      obtain ⟨ess, G, e1, e2, e3, e4, e5, e6⟩ := hO
      rw [rowsTo_length] at e1 e2
      have e2 : wr.ownsRow 0 78 1 (.slice A1 i c1) i ess.flatten := e2
      have hlo : ∀ b, (Value.slice A1 i c1).ownBlock = some b → w.heap.size + 1 ≤ b := fun b hb => (e3 b hb).1
      have HE1 := Lib.hid e1
      have HK := Lib.hid (fun W (h : KeepI (Rng (w.heap.size + 1) wr.heap.size) wr W) => show W.ownsRow 0 78 1 (.slice A1 i c1) i ess.flatten from own_keep e2 fun bb hb => h bb (e3 bb hb))
      clear e1
      have hat0 : (boolCells (List.replicate n false))[i]? = some (.bool false) := (boolCells_at (by simpa using hlt)).trans (by rw [nth_eq (by simpa using hlt)]; simp)
      go_wp2_with ((at_builtin; refine wpList_app ?_ (.tmp 20) (.tmp 22) _ ?_ 0 tyBools (.slice A1 i c1) i ess.flatten ?_ ?_ (some ⟨wr.heap.size + 1, 0, none⟩) 1 1 [.slice (some ⟨wr.heap.size, 0, none⟩) n n] ?_ ?_ (one_one rfl) ?_ ?_ ?_ ?_; rfl; rfl; rfl; exact (HK.out _ (by repeat (first | with_reducible exact KeepI.refl _ _ | with_reducible assumption | (with_reducible refine KeepI.drew ?_) | (with_reducible refine KeepI.drewN ?_ _) | ((with_reducible refine KeepI.alloc ?_ ?_ _); rotate_left; (intro kkI hkI; simp only [Low, Rng, LoR] at hkI; first | omega | (simp <;> omega) | (rcases hkI with hkI | hkI <;> first | omega | (simp <;> omega)))) | ((with_reducible refine KeepI.setCell ?_ ?_ _); rotate_left; (intro hkI; simp only [Low, Rng, LoR] at hkI; first | omega | (simp at hkI <;> omega))) | (refine KeepI.call ?_ (by with_reducible assumption) (by (intro kkI hkI; simp only [Low, Rng, LoR] at hkI; first | omega | (simp <;> omega) | (rcases hkI with hkI | hkI <;> first | omega | (simp <;> omega)))))))); rfl; exact (src_new (by simp) rfl); (first | (unfold maxLen; omega) | (simp only [maxLen]; omega)); (omega); (exact Nat.zero_le _); intro A3 c3 w3 hown3 hg_w3 hat_w3; refine have_then (P := w3.heap[w.heap.size]? = some (.cells #[.int .i64 q0, .int .i64 q1, .int .i64 n, .int .i64 q3, .int .i64 q4, .slice a0 sl.length n0, .slice a1 ow.length n1, .slice a2 ch.length n2, .slice a3 tk.length n3] 63)) ?_ (fun p_w3 => ?_); (focus (refine (hg_w3.block _ ?_ ?_).trans ?_; (first | omega | (simp <;> omega)); (intro e; have hlt := hlo _ e.symm; omega); (repeat (first | with_reducible exact heap_set2 (by with_reducible assumption) | with_reducible exact heap_set2 (heapAt _ _ _ rfl) | with_reducible exact heap_set1 (by with_reducible assumption) | with_reducible exact heap_set1 (heapAt _ _ _ rfl) | with_reducible assumption | (with_reducible refine heapAt _ _ _ ?_; first | rfl | (first | omega | (simp <;> omega))) | (with_reducible refine heap_drew ?_) | (with_reducible refine heap_drewN ?_) | (with_reducible refine (heap_alloc_old _ _ ?_).trans ?_; (first | omega | (simp <;> omega))) | (with_reducible refine heap_set_far ?_ ?_; rotate_left; (first | omega | (simp <;> omega))))); done)); obtain ⟨cp_w3, fp_w3, zp_w3⟩ := blk p_w3; refine have_then (P := Below w.heap.size w w3) ?_ (fun h_w3 => ?_); (focus (refine Below.grown ?_ hg_w3 ?_ ?_; (focus ((repeat (first | with_reducible exact Below.refl _ _ | with_reducible assumption | (with_reducible refine Below.drew ?_) | (with_reducible refine Below.alloc ?_ ?_ _; rotate_left; (first | omega | (simp <;> omega))) | (with_reducible refine Below.setCell ?_ ?_ _; rotate_left; (first | omega | (simp <;> omega))) | (with_reducible refine below_drewN ?_ _) | (refine Below.trans ?_ (Below.mono (by with_reducible assumption) (by first | omega | (simp <;> omega)))))); done)); (first | exact Nat.le_refl _ | exact Below.size (by assumption) | omega | (simp <;> omega)); (intro kk hkk; have hlt := hlo _ hkk; omega); done)); have s_w3 := Below.size h_w3; have t_w3 := hg_w3.size; (try simp at t_w3)))
      go_roundw
      case rel =>
        have z3 := hg_w3.size
        simp at z3
        refine ⟨i + 1, A3, c3, by omega, by go_num, rfl, (by (repeat (first | with_reducible exact heap_set2 (by with_reducible assumption) | with_reducible exact heap_set2 (heapAt _ _ _ rfl) | with_reducible exact heap_set1 (by with_reducible assumption) | with_reducible exact heap_set1 (heapAt _ _ _ rfl) | with_reducible assumption | (with_reducible refine heapAt _ _ _ ?_; first | rfl | (first | omega | (simp <;> omega))) | (with_reducible refine heap_drew ?_) | (with_reducible refine heap_drewN ?_) | (with_reducible refine (heap_alloc_old _ _ ?_).trans ?_; (first | omega | (simp <;> omega))) | (with_reducible refine heap_set_far ?_ ?_; rotate_left; (first | omega | (simp <;> omega)))))), ?_, (by repeat (first | with_reducible exact Below.refl _ _ | with_reducible assumption | (with_reducible refine Below.drew ?_) | (with_reducible refine Below.alloc ?_ ?_ _; rotate_left; (first | omega | (simp <;> omega))) | (with_reducible refine Below.setCell ?_ ?_ _; rotate_left; (first | omega | (simp <;> omega))) | (with_reducible refine below_drewN ?_ _) | (refine Below.trans ?_ (Below.mono (by with_reducible assumption) (by first | omega | (simp <;> omega))))))⟩
        rw [rowsTo_snoc]
        refine osl_step (F := Rng (w.heap.size + 1) wr.heap.size) (Fx := Rng wr.heap.size (wr.heap.size + 1)) (w0 := wr) (es := [.slice (some ⟨wr.heap.size, 0, none⟩) n n]) (by rw [rowsTo_length]; exact HE1.out) e4 e5 e6 e3 hg_w3 hat_w3 (by rw [rowsTo_length]; exact hown3) ⟨wr.heap.size, by rw [unitR_length], by simp only [Rng]; omega, ?_, by rw [unitR_length]; unfold maxLen; omega⟩ ?_ ?_ ?_ ?_ ?_ ?_
        · unfold unitR
          rw [← boolCells_set]
          (repeat (first | with_reducible exact heap_set2 (by with_reducible assumption) | with_reducible exact heap_set2 (heapAt _ _ _ rfl) | with_reducible exact heap_set1 (by with_reducible assumption) | with_reducible exact heap_set1 (heapAt _ _ _ rfl) | with_reducible assumption | (with_reducible refine heapAt _ _ _ ?_; first | rfl | (first | omega | (simp <;> omega))) | (with_reducible refine heap_drew ?_) | (with_reducible refine heap_drewN ?_) | (with_reducible refine (heap_alloc_old _ _ ?_).trans ?_; (first | omega | (simp <;> omega))) | (with_reducible refine heap_set_far ?_ ?_; rotate_left; (first | omega | (simp <;> omega)))))
        · (repeat (first | with_reducible exact KeepI.refl _ _ | with_reducible assumption | (with_reducible refine KeepI.drew ?_) | (with_reducible refine KeepI.drewN ?_ _) | ((with_reducible refine KeepI.alloc ?_ ?_ _); rotate_left; (intro kkI hkI; simp only [Low, Rng, LoR] at hkI; first | omega | (simp <;> omega) | (rcases hkI with hkI | hkI <;> first | omega | (simp <;> omega)))) | ((with_reducible refine KeepI.setCell ?_ ?_ _); rotate_left; (intro hkI; simp only [Low, Rng, LoR] at hkI; first | omega | (simp at hkI <;> omega))) | (refine KeepI.call ?_ (by with_reducible assumption) (by (intro kkI hkI; simp only [Low, Rng, LoR] at hkI; first | omega | (simp <;> omega) | (rcases hkI with hkI | hkI <;> first | omega | (simp <;> omega)))))))
        · intro bb hb hb'; simp only [Rng] at hb hb'; omega
        · intro bb hb; simp only [Rng] at hb; (try simp); omega
        · intro bb hb; simp only [Rng] at hb ⊢; (try simp); omega
        · intro bb hb hb'; simp only [Rng]; (try simp at hb ⊢); omega
        · (repeat (first | with_reducible exact KeepI.refl _ _ | with_reducible assumption | (with_reducible refine KeepI.drew ?_) | (with_reducible refine KeepI.drewN ?_ _) | ((with_reducible refine KeepI.alloc ?_ ?_ _); rotate_left; (intro kkI hkI; simp only [Low, Rng, LoR] at hkI; first | omega | (simp <;> omega) | (rcases hkI with hkI | hkI <;> first | omega | (simp <;> omega)))) | ((with_reducible refine KeepI.setCell ?_ ?_ _); rotate_left; (intro hkI; simp only [Low, Rng, LoR] at hkI; first | omega | (simp at hkI <;> omega))) | (refine KeepI.call ?_ (by with_reducible assumption) (by (intro kkI hkI; simp only [Low, Rng, LoR] at hkI; first | omega | (simp <;> omega) | (rcases hkI with hkI | hkI <;> first | omega | (simp <;> omega)))))))
      case measure => simp [intOf]; omega
    · obtain rfl : n = i := by omega
      obtain ⟨wo, rfl⟩ : ∃ wo : World, wo = wr := ⟨_, rfl⟩
      clear hmk
      go_wp2_with fail
      go_loopw [27] (fun iv wr => ∃ (t : Nat) (R : List (List Bool)), t ≤ n ∧ iv = .int .i64 t ∧ Hid (RowsAre n R (fun j => iterR ch t (unitR n j))) ∧ wr.heap[w.heap.size]? = some (.cells #[.int .i64 q0, .int .i64 q1, .int .i64 n, .int .i64 q3, .int .i64 q4, .slice a0 sl.length n0, .slice a1 ow.length n1, .slice a2 ch.length n2, .slice a3 tk.length n3] 63) ∧
        OSl oRow 78 (Rng (w.heap.size + 1) wo.heap.size) wr (.slice A1 n c1) R ∧ wo.heap.size ≤ wr.heap.size ∧ Below w.heap.size w wr) (fun iv _ => n - (intOf iv).toNat)
      case atStart => exact ⟨0, rowsTo n (unitR n), Nat.zero_le _, rfl, ⟨rowsTo_length _ _, fun j hj => rowsTo_at hj⟩, (by (repeat (first | with_reducible exact heap_set2 (by with_reducible assumption) | with_reducible exact heap_set2 (heapAt _ _ _ rfl) | with_reducible exact heap_set1 (by with_reducible assumption) | with_reducible exact heap_set1 (heapAt _ _ _ rfl) | with_reducible assumption | (with_reducible refine heapAt _ _ _ ?_; first | rfl | (first | omega | (simp <;> omega))) | (with_reducible refine heap_drew ?_) | (with_reducible refine heap_drewN ?_) | (with_reducible refine (heap_alloc_old _ _ ?_).trans ?_; (first | omega | (simp <;> omega))) | (with_reducible refine heap_set_far ?_ ?_; rotate_left; (first | omega | (simp <;> omega)))))), hO, Nat.le_refl _, (by repeat (first | with_reducible exact Below.refl _ _ | with_reducible assumption | (with_reducible refine Below.drew ?_) | (with_reducible refine Below.alloc ?_ ?_ _; rotate_left; (first | omega | (simp <;> omega))) | (with_reducible refine Below.setCell ?_ ?_ _; rotate_left; (first | omega | (simp <;> omega))) | (with_reducible refine below_drewN ?_ _) | (refine Below.trans ?_ (Below.mono (by with_reducible assumption) (by first | omega | (simp <;> omega))))))⟩
      case round =>
        obtain ⟨t, R, ht, rfl, hR, hp, hO, hso, hbr⟩ := hrel
        obtain ⟨cp, fp, zp⟩ := blk hp
        by_cases htn : t < n
        · have ht0 : (0 : Int) ≤ t := by omega
          have ht1 : (t : Int) < n := by omega
          go_wp2_with fail
          go_loopw [32] (fun iv wk => ∃ (k : Nat) (R : List (List Bool)), k ≤ ch.length ∧ iv = .int .i64 k ∧ Hid (RowsAre n R (fun j => passR (ch.take k) (iterR ch t (unitR n j)))) ∧ wk.heap[w.heap.size]? = some (.cells #[.int .i64 q0, .int .i64 q1, .int .i64 n, .int .i64 q3, .int .i64 q4, .slice a0 sl.length n0, .slice a1 ow.length n1, .slice a2 ch.length n2, .slice a3 tk.length n3] 63) ∧
            OSl oRow 78 (Rng (w.heap.size + 1) wo.heap.size) wk (.slice A1 n c1) R ∧ wo.heap.size ≤ wk.heap.size ∧ Below w.heap.size w wk) (fun iv _ => ch.length - (intOf iv).toNat)
          case atStart => exact ⟨0, R, Nat.zero_le _, rfl, ⟨hR.out.1, fun j hj => (hR.out.2 j hj).trans (by rw [List.take_zero]; rfl)⟩, (by (repeat (first | with_reducible exact heap_set2 (by with_reducible assumption) | with_reducible exact heap_set2 (heapAt _ _ _ rfl) | with_reducible exact heap_set1 (by with_reducible assumption) | with_reducible exact heap_set1 (heapAt _ _ _ rfl) | with_reducible assumption | (with_reducible refine heapAt _ _ _ ?_; first | rfl | (first | omega | (simp <;> omega))) | (with_reducible refine heap_drew ?_) | (with_reducible refine heap_drewN ?_) | (with_reducible refine (heap_alloc_old _ _ ?_).trans ?_; (first | omega | (simp <;> omega))) | (with_reducible refine heap_set_far ?_ ?_; rotate_left; (first | omega | (simp <;> omega)))))), hO, hso, (by repeat (first | with_reducible exact Below.refl _ _ | with_reducible assumption | (with_reducible refine Below.drew ?_) | (with_reducible refine Below.alloc ?_ ?_ _; rotate_left; (first | omega | (simp <;> omega))) | (with_reducible refine Below.setCell ?_ ?_ _; rotate_left; (first | omega | (simp <;> omega))) | (with_reducible refine below_drewN ?_ _) | (refine Below.trans ?_ (Below.mono (by with_reducible assumption) (by first | omega | (simp <;> omega))))))⟩
          case round =>
            obtain ⟨k, R, hk, rfl, hR, hp, hO, hso, hbr⟩ := hrel
            obtain ⟨cp, fp, zp⟩ := blk hp
            by_cases hkt : k < ch.length
            · obtain ⟨b, o, rfl, hI, hc0, hc1, hc2⟩ := (hs2.next hB hbr).at_chan hkt
              have hbl : b < w.heap.size := Nat.lt_of_lt_of_le hI hB
              have hbk : b < wr.heap.size := by omega
              have hk0 : (0 : Int) ≤ k := by omega
              have hk1 : (k : Int) < ch.length := by omega
              obtain ⟨⟨s0, s1⟩, ⟨u0, u1⟩, _⟩ := HC.out k hkt
              have HS := Lib.hid (take_snoc hkt)
              generalize nth ch k = x at *
              obtain ⟨xs, xd, xz⟩ := x
              dsimp only at s0 s1 u0 u1 hc0 hc1 hc2
              obtain ⟨ks, rfl⟩ := Int.eq_ofNat_of_zero_le s0
              obtain ⟨kd, rfl⟩ := Int.eq_ofNat_of_zero_le u0
              have hks : ks < n := by omega
              have hkd : kd < n := by omega
              have hks0 : (0 : Int) ≤ ks := by omega
              have hks1 : (ks : Int) < n := by omega
              have hkd0 : (0 : Int) ≤ kd := by omega
              have hkd1 : (kd : Int) < n := by omega
              obtain ⟨w1, rfl⟩ : ∃ w1 : World, w1 = wr := ⟨_, rfl⟩
              go_wp2_with fail
              go_loopw [38] (fun iv wi => ∃ (i : Nat) (R : List (List Bool)), i ≤ n ∧ iv = .int .i64 i ∧ Hid (RowsAre n R (fun j => if j < i then passR (ch.take (k + 1)) (iterR ch t (unitR n j)) else passR (ch.take k) (iterR ch t (unitR n j)))) ∧ wi.heap[w.heap.size]? = some (.cells #[.int .i64 q0, .int .i64 q1, .int .i64 n, .int .i64 q3, .int .i64 q4, .slice a0 sl.length n0, .slice a1 ow.length n1, .slice (some ⟨b, o, none⟩) ch.length n2, .slice a3 tk.length n3] 63) ∧
                wi.heap[w1.heap.size]? = some (.cells #[.int .i64 ks, .int .i64 kd, .int .i64 xz] 123) ∧ OSl oRow 78 (Rng (w.heap.size + 1) wo.heap.size) wi (.slice A1 n c1) R ∧ wo.heap.size ≤ w1.heap.size ∧ w1.heap.size < wi.heap.size ∧ Below w.heap.size w wi) (fun iv _ => n - (intOf iv).toNat)
              case atStart => exact ⟨0, R, Nat.zero_le _, rfl, ⟨hR.out.1, fun j hj => (hR.out.2 j hj).trans (if_neg (Nat.not_lt_zero j)).symm⟩, (by (repeat (first | with_reducible exact heap_set2 (by with_reducible assumption) | with_reducible exact heap_set2 (heapAt _ _ _ rfl) | with_reducible exact heap_set1 (by with_reducible assumption) | with_reducible exact heap_set1 (heapAt _ _ _ rfl) | with_reducible assumption | (with_reducible refine heapAt _ _ _ ?_; first | rfl | (first | omega | (simp <;> omega))) | (with_reducible refine heap_drew ?_) | (with_reducible refine heap_drewN ?_) | (with_reducible refine (heap_alloc_old _ _ ?_).trans ?_; (first | omega | (simp <;> omega))) | (with_reducible refine heap_set_far ?_ ?_; rotate_left; (first | omega | (simp <;> omega)))))), (by (repeat (first | with_reducible exact heap_set2 (by with_reducible assumption) | with_reducible exact heap_set2 (heapAt _ _ _ rfl) | with_reducible exact heap_set1 (by with_reducible assumption) | with_reducible exact heap_set1 (heapAt _ _ _ rfl) | with_reducible assumption | (with_reducible refine heapAt _ _ _ ?_; first | rfl | (first | omega | (simp <;> omega))) | (with_reducible refine heap_drew ?_) | (with_reducible refine heap_drewN ?_) | (with_reducible refine (heap_alloc_old _ _ ?_).trans ?_; (first | omega | (simp <;> omega))) | (with_reducible refine heap_set_far ?_ ?_; rotate_left; (first | omega | (simp <;> omega)))))), hO.keepI (by repeat (first | with_reducible exact KeepI.refl _ _ | with_reducible assumption | (with_reducible refine KeepI.drew ?_) | (with_reducible refine KeepI.drewN ?_ _) | ((with_reducible refine KeepI.alloc ?_ ?_ _); rotate_left; (intro kkI hkI; simp only [Low, Rng, LoR] at hkI; first | omega | (simp <;> omega) | (rcases hkI with hkI | hkI <;> first | omega | (simp <;> omega)))) | ((with_reducible refine KeepI.setCell ?_ ?_ _); rotate_left; (intro hkI; simp only [Low, Rng, LoR] at hkI; first | omega | (simp at hkI <;> omega))) | (refine KeepI.call ?_ (by with_reducible assumption) (by (intro kkI hkI; simp only [Low, Rng, LoR] at hkI; first | omega | (simp <;> omega) | (rcases hkI with hkI | hkI <;> first | omega | (simp <;> omega))))))), hso, by simp, (by repeat (first | with_reducible exact Below.refl _ _ | with_reducible assumption | (with_reducible refine Below.drew ?_) | (with_reducible refine Below.alloc ?_ ?_ _; rotate_left; (first | omega | (simp <;> omega))) | (with_reducible refine Below.setCell ?_ ?_ _; rotate_left; (first | omega | (simp <;> omega))) | (with_reducible refine below_drewN ?_ _) | (refine Below.trans ?_ (Below.mono (by with_reducible assumption) (by first | omega | (simp <;> omega))))))⟩
              case round =>
                obtain ⟨i, R, hi, rfl, hR, hp, hx, hO, hso, hs1, hbr⟩ := hrel
                obtain ⟨cp, fp, zp⟩ := blk hp
                obtain ⟨cx, fx, zx⟩ := blk hx
                by_cases hit : i < n
                · have hi0 : (0 : Int) ≤ i := by omega
                  have hi1 : (i : Int) < n := by omega
                  obtain ⟨hRl, hRj⟩ := hR.out
                  have hrow := hRj i hit
                  dsimp only at hrow
                  rw [if_neg (by omega)] at hrow
                  have HR1 : Hid (∀ v : List Bool, v = stepR ⟨ks, kd, xz⟩ (nth R i) → RowsAre n (R.set i v) (fun j => if j < i + 1 then passR (ch.take (k + 1)) (iterR ch t (unitR n j)) else passR (ch.take k) (iterR ch t (unitR n j)))) := Lib.hid (fun v hv => ⟨by simp [hRl], fun j hj => by
                    dsimp only
                    rw [nth_set (by omega)]
                    by_cases hij : i = j
                    · subst hij
                      rw [if_pos rfl, if_pos (by omega), HS.out, passR_snoc, hv, hrow]
                    · rw [if_neg hij, hRj j hj]
                      dsimp only
                      by_cases hji : j < i
                      · rw [if_pos hji, if_pos (by omega)]
                      · rw [if_neg hji, if_neg (by omega)]⟩)
                  obtain ⟨g, cc, es, Gi, hv, hFg, ⟨gi, rfl, hGi, hgi, hm⟩, hcells, hG, hput⟩ := osl_elem hO (show i < R.length by omega)
                  injection hv with hv1 hv2 hv3
                  subst hv1
                  have hcr0 := hcells 0 _ rfl
                  have hrl : (nth R i).length = n := by rw [hrow, passR_length, iterR_length, unitR_length]
                  obtain ⟨cg, fg, zg⟩ := blk hgi
                  have hcs := (cg ks).trans (boolCells_at (by omega))
                  have hcd := (cg kd).trans (boolCells_at (by omega))
                  have hcr : wr.cell? ⟨g, i, none⟩ = some (.slice (some ⟨gi, 0, none⟩) n n) := by
                    rw [hrl] at hcr0
                    have e : 0 + i * oRow.cod.size + 0 = i := by show 0 + i * 1 + 0 = i; omega
                    first
                      | (rw [e] at hcr0; exact hcr0)
                      | (have e2 : i * oRow.cod.size + 0 = i := by show i * 1 + 0 = i; omega
                         rw [e2] at hcr0; exact hcr0)
                  clear hcr0
                  have hgi1 : w.heap.size + 1 ≤ gi := (hG gi hGi).1.1
                  have hgi2 : gi < wo.heap.size := (hG gi hGi).1.2
                  have hg1 : w.heap.size + 1 ≤ g := hFg.1
                  have hg2 : g < wo.heap.size := hFg.2
                  have HP : Hid (∀ (W : World) (v : List Bool), v.length = n → W.heap[gi]? = some (.cells (boolCells v) 4 (0, 0)) → (∀ b, b ≠ gi → b < wr.heap.size → W.heap[b]? = wr.heap[b]?) → OSl oRow 78 (Rng (w.heap.size + 1) wo.heap.size) W (.slice (some ⟨g, 0, none⟩) n c1) (R.set i v)) := Lib.hid (fun W v hl hc hk => hput W v ⟨gi, by rw [hrl, hl], hGi, hc, by rw [hl]; rw [hrl] at hm; exact hm⟩ (fun b hb hnb => hk b (fun e => hnb (e ▸ hGi)) (by have := hb.2; omega)))
                  clear hput hcells hv2 hv3 hR hRj hG hFg
                  have HV : Hid ((nth R i).set kd (nth (nth R i) kd || nth (nth R i) ks) = stepR ⟨ks, kd, xz⟩ (nth R i)) := Lib.hid (by unfold stepR; simp)
                  generalize nth R i = rr at *
                  generalize hbs : nth rr ks = bs at *
                  generalize hbd : nth rr kd = bd at *
                  have hset := Lib.hid (boolCells_set rr kd (bd || bs))
                  clear cg hrow hRl HS
                  go_wp2_with fail
                  refine reachTurn _ (by kernel_rfl) n ks kd i g gi w1.heap.size c1 xz bs bd hit hks hkd wr hn4 cx fx zx hcr hcs hcd fg zg _ _ _ _ _ _ _ _ _ _ _ _ _ _ _ _ _ _ _ _ _ _ _ _ _ _ _ _ _ _ _ _ _ _ _ _ _ _ _ _ _ _ _ _ _ _ _ _ _ _ _ _ _ _ _ _ _ _ _ _ _ _ _ _ _ _ _ _ ?_
                  intro v41 v42 v43 v44 v45 v46 v47 v48 v49 v50 v51 v52 v53 v54 v55 v56 v57 v58 v59 v60 v61 v62 v63 v64 v65
                  go_wp2_with fail
                  go_roundw
                  case rel =>
                    refine ⟨i + 1, _, by omega, by go_num, HR1.out _ HV.out, (by (repeat (first | with_reducible exact heap_set2 (by with_reducible assumption) | with_reducible exact heap_set2 (heapAt _ _ _ rfl) | with_reducible exact heap_set1 (by with_reducible assumption) | with_reducible exact heap_set1 (heapAt _ _ _ rfl) | with_reducible assumption | (with_reducible refine heapAt _ _ _ ?_; first | rfl | (first | omega | (simp <;> omega))) | (with_reducible refine heap_drew ?_) | (with_reducible refine heap_drewN ?_) | (with_reducible refine (heap_alloc_old _ _ ?_).trans ?_; (first | omega | (simp <;> omega))) | (with_reducible refine heap_set_far ?_ ?_; rotate_left; (first | omega | (simp <;> omega)))))), (by (repeat (first | with_reducible exact heap_set2 (by with_reducible assumption) | with_reducible exact heap_set2 (heapAt _ _ _ rfl) | with_reducible exact heap_set1 (by with_reducible assumption) | with_reducible exact heap_set1 (heapAt _ _ _ rfl) | with_reducible assumption | (with_reducible refine heapAt _ _ _ ?_; first | rfl | (first | omega | (simp <;> omega))) | (with_reducible refine heap_drew ?_) | (with_reducible refine heap_drewN ?_) | (with_reducible refine (heap_alloc_old _ _ ?_).trans ?_; (first | omega | (simp <;> omega))) | (with_reducible refine heap_set_far ?_ ?_; rotate_left; (first | omega | (simp <;> omega)))))), HP.out _ _ (by simp [hrl]) ?_ ?_, hso, (by first | omega | (simp <;> omega)), (by repeat (first | with_reducible exact Below.refl _ _ | with_reducible assumption | (with_reducible refine Below.drew ?_) | (with_reducible refine Below.alloc ?_ ?_ _; rotate_left; (first | omega | (simp <;> omega))) | (with_reducible refine Below.setCell ?_ ?_ _; rotate_left; (first | omega | (simp <;> omega))) | (with_reducible refine below_drewN ?_ _) | (refine Below.trans ?_ (Below.mono (by with_reducible assumption) (by first | omega | (simp <;> omega))))))⟩
                    · rw [← hset.out]
                      exact heap_drew (heap_set_same hgi)
                    · exact fun b hb _ => heap_set_far rfl hb
                  case measure => simp [intOf]; omega
                · obtain rfl : n = i := by omega
                  go_wp2_with fail
                  go_roundw
                  case rel =>
                    refine ⟨k + 1, R, by omega, by go_num, ⟨hR.out.1, fun j hj => (hR.out.2 j hj).trans (if_pos hj)⟩, (by (repeat (first | with_reducible exact heap_set2 (by with_reducible assumption) | with_reducible exact heap_set2 (heapAt _ _ _ rfl) | with_reducible exact heap_set1 (by with_reducible assumption) | with_reducible exact heap_set1 (heapAt _ _ _ rfl) | with_reducible assumption | (with_reducible refine heapAt _ _ _ ?_; first | rfl | (first | omega | (simp <;> omega))) | (with_reducible refine heap_drew ?_) | (with_reducible refine heap_drewN ?_) | (with_reducible refine (heap_alloc_old _ _ ?_).trans ?_; (first | omega | (simp <;> omega))) | (with_reducible refine heap_set_far ?_ ?_; rotate_left; (first | omega | (simp <;> omega)))))), hO, by omega, (by repeat (first | with_reducible exact Below.refl _ _ | with_reducible assumption | (with_reducible refine Below.drew ?_) | (with_reducible refine Below.alloc ?_ ?_ _; rotate_left; (first | omega | (simp <;> omega))) | (with_reducible refine Below.setCell ?_ ?_ _; rotate_left; (first | omega | (simp <;> omega))) | (with_reducible refine below_drewN ?_ _) | (refine Below.trans ?_ (Below.mono (by with_reducible assumption) (by first | omega | (simp <;> omega))))))⟩
                  case measure => simp [intOf]; omega
            · obtain rfl : k = ch.length := by omega
              go_wp2_with fail
              go_roundw
              case rel =>
                refine ⟨t + 1, R, by omega, by go_num, ⟨hR.out.1, fun j hj => (hR.out.2 j hj).trans (by rw [List.take_length]; rfl)⟩, (by (repeat (first | with_reducible exact heap_set2 (by with_reducible assumption) | with_reducible exact heap_set2 (heapAt _ _ _ rfl) | with_reducible exact heap_set1 (by with_reducible assumption) | with_reducible exact heap_set1 (heapAt _ _ _ rfl) | with_reducible assumption | (with_reducible refine heapAt _ _ _ ?_; first | rfl | (first | omega | (simp <;> omega))) | (with_reducible refine heap_drew ?_) | (with_reducible refine heap_drewN ?_) | (with_reducible refine (heap_alloc_old _ _ ?_).trans ?_; (first | omega | (simp <;> omega))) | (with_reducible refine heap_set_far ?_ ?_; rotate_left; (first | omega | (simp <;> omega)))))), hO, hso, (by repeat (first | with_reducible exact Below.refl _ _ | with_reducible assumption | (with_reducible refine Below.drew ?_) | (with_reducible refine Below.alloc ?_ ?_ _; rotate_left; (first | omega | (simp <;> omega))) | (with_reducible refine Below.setCell ?_ ?_ _; rotate_left; (first | omega | (simp <;> omega))) | (with_reducible refine below_drewN ?_ _) | (refine Below.trans ?_ (Below.mono (by with_reducible assumption) (by first | omega | (simp <;> omega))))))⟩
              case measure => simp [intOf]; omega
        · obtain rfl : n = t := by omega
          go_wp2_with fail
          refine bodyPost_ret (v := .slice A1 n c1) (by simp [results, Try.results83, go_sem, *]) rfl ?_
          obtain rfl := rows_are hR.out
          refine ⟨A1, c1, by rw [rowsTo_length], ?_, (by repeat (first | with_reducible exact Below.refl _ _ | with_reducible assumption | (with_reducible refine Below.drew ?_) | (with_reducible refine Below.alloc ?_ ?_ _; rotate_left; (first | omega | (simp <;> omega))) | (with_reducible refine Below.setCell ?_ ?_ _; rotate_left; (first | omega | (simp <;> omega))) | (with_reducible refine below_drewN ?_ _) | (refine Below.trans ?_ (Below.mono (by with_reducible assumption) (by first | omega | (simp <;> omega))))))⟩
          exact (OSl.read hO).mono (by intro kkI hkI; simp only [Low, Rng, LoR] at hkI ⊢; (try simp at hkI ⊢); (first | omega | (rcases hkI with hkI | hkI <;> omega)))
end Go.Proofs.Ytinlmkhlgclbfaa
