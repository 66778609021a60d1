/-
  OrdB: contract of the law MailOrder.
-/
import Derived.Test.YtinlmkhlgclbfaaOrdA
import Derived.Test.YtinlmkhlgclbfaaMemO
import Derived.Deep.RegionLaw
namespace Go.Proofs.Ytinlmkhlgclbfaa
open Go.RowKit
set_option maxRecDepth 100000
set_option maxHeartbeats 1000000

/-- the blocks of I hold what is read, apart from the ring's block g and from the rows K and G -/
structure Apt (lo g : Nat) (W : World) (K G : Value) (I : Nat → Prop) : Prop where
  lt : ∀ b, I b → lo ≤ b ∧ b < W.heap.size
  ng : ¬ I g
  nk : ∀ b, K.ownBlock = some b → ¬ I b
  no : ∀ b, G.ownBlock = some b → ¬ I b
theorem Apt.next {lo g : Nat} {W W' : World} {K G : Value} {I : Nat → Prop} (h : Apt lo g W K G I) (hs : W.heap.size ≤ W'.heap.size) : Apt lo g W' K G I :=
  ⟨fun b hb => ⟨(h.lt b hb).1, Nat.lt_of_lt_of_le (h.lt b hb).2 hs⟩, h.ng, h.nk, h.no⟩
theorem Apt.kept {lo g : Nat} {W : World} {K K' G : Value} {I : Nat → Prop} (h : Apt lo g W K G I) (hat : K'.ownBlock = K.ownBlock ∨ K'.ownBlock = some W.heap.size) : Apt lo g W K' G I :=
  ⟨h.lt, h.ng, fun b hb hI => by
    rcases hat with e | e
    · exact h.nk b (e.symm.trans hb) hI
    · rw [hb] at e; cases e; exact absurd (h.lt _ hI).2 (Nat.lt_irrefl _), h.no⟩
theorem Apt.got {lo g : Nat} {W : World} {K G G' : Value} {I : Nat → Prop} (h : Apt lo g W K G I) (hat : G'.ownBlock = G.ownBlock ∨ G'.ownBlock = some W.heap.size) : Apt lo g W K G' I :=
  ⟨h.lt, h.ng, h.nk, fun b hb hI => by
    rcases hat with e | e
    · exact h.no b (e.symm.trans hb) hI
    · rw [hb] at e; cases e; exact absurd (h.lt _ hI).2 (Nat.lt_irrefl _)⟩

/-- two rows of the law's own and the ring's block, apart from one another -/
structure Rows2 (lo g : Nat) (w W : World) (K G : Value) (kn gn : Nat) (ks gs : List Int) (r : Value) : Prop where
  k : W.ownsRow lo 3 1 K kn (ks.flatMap fun n => [Value.int .i64 n])
  o : W.ownsRow lo 3 1 G gn (gs.flatMap fun n => [Value.int .i64 n])
  ring : ∃ A n c l, r = .agg #[.slice A n c, .int .i64 l] ∧ W.heap[g]? = some (.cells #[.slice A n c, .int .i64 l] 24)
  ge : lo ≤ g
  kg : K.ownBlock ≠ some g
  og : G.ownBlock ≠ some g
  ko : ∀ b, K.ownBlock = some b → G.ownBlock ≠ some b
  bel : Below lo w W
theorem Rows2.lt {lo g : Nat} {w W : World} {K G : Value} {kn gn : Nat} {ks gs : List Int} {r : Value} (h : Rows2 lo g w W K G kn gn ks gs r) : g < W.heap.size := by
  obtain ⟨A, n, c, l, _, hg⟩ := h.ring
  exact (Array.getElem?_eq_some_iff.1 hg).1
theorem Rows2.next {lo g : Nat} {w W W' : World} {K G : Value} {kn gn : Nat} {ks gs : List Int} {r : Value} (h : Rows2 lo g w W K G kn gn ks gs r) (hb : Below W.heap.size W W') (hlo : lo ≤ W.heap.size) : Rows2 lo g w W' K G kn gn ks gs r := by
  have hlt := h.lt
  refine ⟨own_keep h.k fun b e => hb.block b (own_lt h.k b e).2, own_keep h.o fun b e => hb.block b (own_lt h.o b e).2, ?_, h.ge, h.kg, h.og, h.ko, h.bel.trans (hb.mono hlo)⟩
  obtain ⟨A, n, c, l, e, hg⟩ := h.ring
  exact ⟨A, n, c, l, e, (hb.block g hlt).trans hg⟩
theorem Rows2.kept {lo g : Nat} {w W W' : World} {K K' G : Value} {kn kn' gn : Nat} {ks ks' gs : List Int} {r : Value} (h : Rows2 lo g w W K G kn gn ks gs r) (hlo : lo ≤ W.heap.size) (hk : W'.ownsRow lo 3 1 K' kn' (ks'.flatMap fun n => [Value.int .i64 n]))
    (hg : W.grownBy W' K.ownBlock) (hat : K'.ownBlock = K.ownBlock ∨ K'.ownBlock = some W.heap.size) : Rows2 lo g w W' K' G kn' gn ks' gs r := by
  have hlt := h.lt
  refine ⟨hk, own_keep h.o fun b e => hg.block b (own_lt h.o b e).2 fun e' => h.ko b e'.symm e, ?_, h.ge, ?_, h.og, ?_, ?_⟩
  · obtain ⟨A, n, c, l, e, hgg⟩ := h.ring
    exact ⟨A, n, c, l, e, (hg.block g hlt (Ne.symm h.kg)).trans hgg⟩
  · rcases hat with e | e
    · rw [e]; exact h.kg
    · rw [e]; intro e'; cases e'; exact Nat.lt_irrefl _ hlt
  · intro b hb e'
    rcases hat with e | e
    · exact h.ko b (e.symm.trans hb) e'
    · rw [hb] at e; cases e; exact absurd (own_lt h.o _ e').2 (Nat.lt_irrefl _)
  · exact grown_below h.bel hlo h.k hg
theorem Rows2.got {lo g : Nat} {w W W' : World} {K G G' : Value} {kn gn gn' : Nat} {ks gs gs' : List Int} {r : Value} (h : Rows2 lo g w W K G kn gn ks gs r) (hlo : lo ≤ W.heap.size) (hk : W'.ownsRow lo 3 1 G' gn' (gs'.flatMap fun n => [Value.int .i64 n]))
    (hg : W.grownBy W' G.ownBlock) (hat : G'.ownBlock = G.ownBlock ∨ G'.ownBlock = some W.heap.size) : Rows2 lo g w W' K G' kn gn' ks gs' r := by
  have hlt := h.lt
  refine ⟨own_keep h.k fun b e => hg.block b (own_lt h.k b e).2 fun e' => h.ko b e e'.symm, hk, ?_, h.ge, h.kg, ?_, ?_, ?_⟩
  · obtain ⟨A, n, c, l, e, hgg⟩ := h.ring
    exact ⟨A, n, c, l, e, (hg.block g hlt (Ne.symm h.og)).trans hgg⟩
  · rcases hat with e | e
    · rw [e]; exact h.og
    · rw [e]; intro e'; cases e'; exact Nat.lt_irrefl _ hlt
  · intro b hb e'
    rcases hat with e | e
    · exact h.ko b hb (e.symm.trans e')
    · rw [e'] at e; cases e; exact absurd (own_lt h.k _ hb).2 (Nat.lt_irrefl _)
  · exact grown_below h.bel hlo h.o hg
theorem Rows2.set {lo g : Nat} {w W : World} {K G : Value} {kn gn : Nat} {ks gs : List Int} {r : Value} (h : Rows2 lo g w W K G kn gn ks gs r) (A : Option Addr) (n c : Nat) (l : Int) :
    Rows2 lo g w ((W.setCell ⟨g, 0, none⟩ (.slice A n c)).setCell ⟨g, 1, none⟩ (.int .i64 l)) K G kn gn ks gs (.agg #[.slice A n c, .int .i64 l]) := by
  have hge := h.ge
  obtain ⟨A0, n0, c0, l0, e, hgg⟩ := h.ring
  refine ⟨own_set_ne (own_set_ne h.k h.kg _) h.kg _, own_set_ne (own_set_ne h.o h.og _) h.og _, ⟨A, n, c, l, rfl, heap_set2 hgg⟩, h.ge, h.kg, h.og, h.ko, ?_⟩
  exact (h.bel.setCell hge _).setCell hge _

theorem own_none (w : World) (base : Nat) (e size : Nat) : w.ownsRow base e size (.slice none 0 0) 0 [] := ⟨by simp, Or.inl ⟨rfl, rfl⟩⟩

theorem lawMailOrder (size : Int) (l : List (List Int)) (gets : List Int) (A A' : Option Addr) (c c' : Nat) (B : Nat) (w : World) (hB : B ≤ w.heap.size) (hs : Sl cInt.slice (Low B) w A c l) (hs' : Sl cInt (Low B) w A' c' gets)
    (hl : l.length * 24 ≤ 140737488351232) (hl2 : ∀ x ∈ l, x.length * 8 ≤ 140737488351232) (hg : ∀ x ∈ gets, -9223372036854775808 ≤ x ∧ x ≤ 9223372036854775807) :
    Calls Try.prog 4 #[.int .i64 size, .slice A l.length c, .slice A' gets.length c'] w fun en w' => en = .returned (.bool true) ∧ Below w.heap.size w w' := by
  have H6 := Lib.hid (fun W => lawMailBegun W)
  have hm := Lib.hid hs'.cap
  by_cases h1 : 1 ≤ size
  · by_cases h2 : size ≤ 4
    · go_enter Try.func4, Try.ntmps4
      go_wp2_with fail
      (go_at_call 19; refine (H6.out _).mono ?_; rintro e w1 ⟨rfl, hb_w1⟩; refine have_then (P := Below w.heap.size w w1) ?_ (fun h_w1 => ?_); (focus ((repeat (first | with_reducible exact Below.refl _ _ | with_reducible assumption | (with_reducible refine Below.drew ?_) | (with_reducible refine Below.alloc ?_ ?_ _; rotate_left; (first | omega | (simp <;> omega))) | (with_reducible refine Below.setCell ?_ ?_ _; rotate_left; (first | omega | (simp <;> omega))) | (with_reducible refine below_drewN ?_ _) | (refine Below.trans ?_ (Below.mono (by with_reducible assumption) (by first | omega | (simp <;> omega)))))); done)); have s_w1 := Below.size h_w1; have t_w1 := Below.size hb_w1; (try simp at t_w1); revert hb_w1; intro hb_w1)
      go_wp2
      go_loopw [8, 9, 10] (fun kv gv iv wr => ∃ (i : Nat) (ks gs rv : List Int) (rl : Int) (AK AG A1 : Option Addr) (cK cG c1 : Nat) (I : Nat → Prop), i ≤ l.length ∧ iv = .int .i64 i ∧ kv = .slice AK ks.length cK ∧ gv = .slice AG gs.length cG ∧
        Rows2 w.heap.size w1.heap.size w wr (.slice AK ks.length cK) (.slice AG gs.length cG) ks.length gs.length ks gs (.agg #[.slice A1 rv.length c1, .int .i64 rl]) ∧ Sl cInt I wr A1 c1 rv ∧ Apt w.heap.size w1.heap.size wr (.slice AK ks.length cK) (.slice AG gs.length cG) I ∧
        Hid (ks = gs ++ rv ∧ gs.length ≤ 3 * i ∧ checkRing rv rl size = 0)) (fun _ _ iv _ => l.length - (intOf iv).toNat)
      case atStart =>
        refine ⟨0, [], [], [], 0, none, none, none, 0, 0, 0, fun _ => False, Nat.zero_le _, rfl, rfl, rfl, ⟨own_none _ _ _ _, own_none _ _ _ _, ⟨none, 0, 0, 0, rfl, (by (repeat (first | with_reducible exact heap_set2 (by with_reducible assumption) | with_reducible exact heap_set2 (heapAt _ _ _ rfl) | with_reducible exact heap_set1 (by with_reducible assumption) | with_reducible exact heap_set1 (heapAt _ _ _ rfl) | with_reducible assumption | (with_reducible refine heapAt _ _ _ ?_; first | rfl | (first | omega | (simp <;> omega))) | (with_reducible refine heap_drew ?_) | (with_reducible refine heap_drewN ?_) | (with_reducible refine (heap_alloc_old _ _ ?_).trans ?_; (first | omega | (simp <;> omega))) | (with_reducible refine heap_set_far ?_ ?_; rotate_left; (first | omega | (simp <;> omega))))))⟩, (by first | omega | (simp <;> omega)), by simp [Value.ownBlock], by simp [Value.ownBlock], by simp [Value.ownBlock], (by repeat (first | with_reducible exact Below.refl _ _ | with_reducible assumption | (with_reducible refine Below.drew ?_) | (with_reducible refine Below.alloc ?_ ?_ _; rotate_left; (first | omega | (simp <;> omega))) | (with_reducible refine Below.setCell ?_ ?_ _; rotate_left; (first | omega | (simp <;> omega))) | (with_reducible refine below_drewN ?_ _) | (refine Below.trans ?_ (Below.mono (by with_reducible assumption) (by first | omega | (simp <;> omega))))))⟩, Sl.empty _ _ _, ⟨fun _ h => h.elim, fun h => h, fun _ h => by simp [Value.ownBlock] at h, fun _ h => by simp [Value.ownBlock] at h⟩, ⟨by simp, by simp, checkRing_eq.2 ⟨h1, h2, by simp; omega, rfl, by omega, by omega⟩⟩⟩
      case round =>
        obtain ⟨i, ks, gs, rv, rl, AK, AG, A1, cK, cG, c1, I, hi, rfl, rfl, rfl, R, hv, P, hinv⟩ := hrel
        have hring : wr.heap[w1.heap.size]? = some (.cells #[.slice A1 rv.length c1, .int .i64 rl] 24) := by obtain ⟨A, n, c, l, e, hg⟩ := R.ring; cases e; exact hg
        obtain ⟨cr, fr, zr⟩ := blk hring
        have hc0 : wr.cell? ⟨w1.heap.size, 0, none⟩ = some (.slice A1 rv.length c1) := (cr 0).trans rfl
        have hc1 : wr.cell? ⟨w1.heap.size, 1, none⟩ = some (.int .i64 rl) := (cr 1).trans rfl
        have hbel := R.bel
        have hsz := hbel.size
        by_cases hlt : i < l.length
        · obtain ⟨b, o, A2, c2, rfl, hI, hcell, hin⟩ := hs.at_slice hlt
          have hbH : b < w.heap.size := Nat.lt_of_lt_of_le hI hB
          have hcellr := (hbel.cell (p := ⟨b, o + i, none⟩) hbH).trans hcell
          have hy : (nth l i).length * 8 ≤ 140737488355328 := by have := hl2 _ (nth_mem hlt); omega
          have hi0 : (0 : Int) ≤ i := by omega
          have hi1 : (i : Int) < l.length := by omega
          have hbW : b < wr.heap.size := by omega
          have H1 := Lib.hid (fun W A c (hx : Sl cInt (Low W.heap.size) W A c rv) (hb : Below w.heap.size w W) => mailCommitS rv (nth l i) rl size A A2 c c2 W.heap.size W (Nat.le_refl _) hx ((hin.next hB hb).up (Nat.le_trans hB hb.size)) hy)
          have HP := Lib.hid P.lt
          go_wp2_with fail
          go_cut [12, 13] (fun v e wx => ∃ g2 A3 c3, v = .pointer (some ⟨g2, 0, none⟩) ∧ e = .int .i64 (commitErr rv (nth l i) rl size) ∧ wr.heap.size ≤ g2 ∧ wx.heap[g2]? = some (.cells #[.slice A3 (commitVals rv (nth l i) rl size).length c3, .int .i64 (commitLost rv (nth l i) rl size)] 24) ∧
            Sl cInt (fun k => wr.heap.size ≤ k ∧ k < wx.heap.size ∧ k ≠ g2) wx A3 c3 (commitVals rv (nth l i) rl size) ∧ Below wr.heap.size wr wx)
          case first =>
            go_region_held3 (fun w' => w'.cell? ⟨w1.heap.size, 0, none⟩ = some (.slice A1 rv.length c1) ∧ w'.cell? ⟨w1.heap.size, 1, none⟩ = some (.int .i64 rl) ∧ w'.cell? ⟨b, o + i, none⟩ = some (.slice A2 (nth l i).length c2)) (((try dsimp only); (repeat' apply And.intro) <;> (first | exact (Below.cell (B := wr.heap.size) (w := wr) (by repeat (first | with_reducible exact Below.refl _ _ | with_reducible assumption | (with_reducible refine Below.drew ?_) | (with_reducible refine Below.alloc ?_ ?_ _; rotate_left; (first | omega | (simp <;> omega))) | (with_reducible refine Below.setCell ?_ ?_ _; rotate_left; (first | omega | (simp <;> omega))) | (with_reducible refine below_drewN ?_ _) | (refine Below.trans ?_ (Below.mono (by with_reducible assumption) (by first | omega | (simp <;> omega)))))) (by first | assumption | omega)).trans (by assumption) | go_keep | (simp [go_sem, *]; done))))
              (first | (go_at_call 13; refine (H1.out _ A1 c1 (Sl.mono (hv.keepI (by repeat (first | with_reducible exact KeepI.refl _ _ | (with_reducible refine KeepI.drew ?_) | (with_reducible refine KeepI.drewN ?_ _) | ((with_reducible refine KeepI.alloc ?_ ?_ _); rotate_left; (intro kI hkI; have hlI := HP.out kI hkI; first | omega | (simp <;> omega)))))) (by intro kI hkI; have hlI := HP.out kI hkI; simp only [Low]; first | omega | (simp <;> omega))) (by repeat (first | with_reducible exact Below.refl _ _ | with_reducible assumption | (with_reducible refine Below.drew ?_) | (with_reducible refine Below.alloc ?_ ?_ _; rotate_left; (first | omega | (simp <;> omega))) | (with_reducible refine Below.setCell ?_ ?_ _; rotate_left; (first | omega | (simp <;> omega))) | (with_reducible refine below_drewN ?_ _) | (refine Below.trans ?_ (Below.mono (by with_reducible assumption) (by first | omega | (simp <;> omega))))))).mono ?_; rintro e w2 ⟨A3, c3, rfl, hs3, hb_w2⟩; refine have_then (P := w2.heap[wr.heap.size]? = some (.cells #[.slice none 0 0, .int .i64 0] 24)) ?_ (fun x_w2 => ?_); (focus (refine (hb_w2.block _ ?_).trans ?_; (first | omega | (simp <;> omega)); (repeat (first | with_reducible exact heap_set2 (by with_reducible assumption) | with_reducible exact heap_set2 (heapAt _ _ _ rfl) | with_reducible exact heap_set1 (by with_reducible assumption) | with_reducible exact heap_set1 (heapAt _ _ _ rfl) | with_reducible assumption | (with_reducible refine heapAt _ _ _ ?_; first | rfl | (first | omega | (simp <;> omega))) | (with_reducible refine heap_drew ?_) | (with_reducible refine heap_drewN ?_) | (with_reducible refine (heap_alloc_old _ _ ?_).trans ?_; (first | omega | (simp <;> omega))) | (with_reducible refine heap_set_far ?_ ?_; rotate_left; (first | omega | (simp <;> omega))))); done)); obtain ⟨cx_w2, fx_w2, zx_w2⟩ := blk x_w2; refine have_then (P := Below w.heap.size w w2) ?_ (fun h_w2 => ?_); (focus ((repeat (first | with_reducible exact Below.refl _ _ | with_reducible assumption | (with_reducible refine Below.drew ?_) | (with_reducible refine Below.alloc ?_ ?_ _; rotate_left; (first | omega | (simp <;> omega))) | (with_reducible refine Below.setCell ?_ ?_ _; rotate_left; (first | omega | (simp <;> omega))) | (with_reducible refine below_drewN ?_ _) | (refine Below.trans ?_ (Below.mono (by with_reducible assumption) (by first | omega | (simp <;> omega)))))); done)); have s_w2 := Below.size h_w2; have t_w2 := Below.size hb_w2; (try simp at t_w2); revert hb_w2; intro hb_w2) | (go_at_call 13; refine (H1.out _ A1 c1 (Sl.mono (hv.keepI (by repeat (first | with_reducible exact KeepI.refl _ _ | (with_reducible refine KeepI.drew ?_) | (with_reducible refine KeepI.drewN ?_ _) | ((with_reducible refine KeepI.alloc ?_ ?_ _); rotate_left; (intro kI hkI; have hlI := HP.out kI hkI; first | omega | (simp <;> omega)))))) (by intro kI hkI; have hlI := HP.out kI hkI; simp only [Low]; first | omega | (simp <;> omega))) (by repeat (first | with_reducible exact Below.refl _ _ | with_reducible assumption | (with_reducible refine Below.drew ?_) | (with_reducible refine Below.alloc ?_ ?_ _; rotate_left; (first | omega | (simp <;> omega))) | (with_reducible refine Below.setCell ?_ ?_ _; rotate_left; (first | omega | (simp <;> omega))) | (with_reducible refine below_drewN ?_ _) | (refine Below.trans ?_ (Below.mono (by with_reducible assumption) (by first | omega | (simp <;> omega))))))).mono ?_; rintro e w2 ⟨A3, c3, rfl, hs3, hb_w2⟩; refine have_then (P := Below w.heap.size w w2) ?_ (fun h_w2 => ?_); (focus ((repeat (first | with_reducible exact Below.refl _ _ | with_reducible assumption | (with_reducible refine Below.drew ?_) | (with_reducible refine Below.alloc ?_ ?_ _; rotate_left; (first | omega | (simp <;> omega))) | (with_reducible refine Below.setCell ?_ ?_ _; rotate_left; (first | omega | (simp <;> omega))) | (with_reducible refine below_drewN ?_ _) | (refine Below.trans ?_ (Below.mono (by with_reducible assumption) (by first | omega | (simp <;> omega)))))); done)); have s_w2 := Below.size h_w2; have t_w2 := Below.size hb_w2; (try simp at t_w2); revert hb_w2; intro hb_w2))
            all_goals
              go_wp2_with fail
              go_meet
              refine ⟨_, A3, c3, rfl, rfl, ?_, (by (repeat (first | with_reducible exact heap_set2 (by with_reducible assumption) | with_reducible exact heap_set2 (heapAt _ _ _ rfl) | with_reducible exact heap_set1 (by with_reducible assumption) | with_reducible exact heap_set1 (heapAt _ _ _ rfl) | with_reducible assumption | (with_reducible refine heapAt _ _ _ ?_; first | rfl | (first | omega | (simp <;> omega))) | (with_reducible refine heap_drew ?_) | (with_reducible refine heap_drewN ?_) | (with_reducible refine (heap_alloc_old _ _ ?_).trans ?_; (first | omega | (simp <;> omega))) | (with_reducible refine heap_set_far ?_ ?_; rotate_left; (first | omega | (simp <;> omega)))))), Sl.mono (hs3.keepI (by repeat (first | with_reducible exact KeepI.refl _ _ | with_reducible assumption | (with_reducible refine KeepI.drew ?_) | (with_reducible refine KeepI.drewN ?_ _) | ((with_reducible refine KeepI.alloc ?_ ?_ _); rotate_left; (intro kkI hkI; simp only [Low, Rng, LoR] at hkI; first | omega | (simp <;> omega) | (rcases hkI with hkI | hkI <;> first | omega | (simp <;> omega)))) | ((with_reducible refine KeepI.setCell ?_ ?_ _); rotate_left; (intro hkI; simp only [Low, Rng, LoR] at hkI; first | omega | (simp at hkI <;> omega))) | (refine KeepI.call ?_ (by with_reducible assumption) (by (intro kkI hkI; simp only [Low, Rng, LoR] at hkI; first | omega | (simp <;> omega) | (rcases hkI with hkI | hkI <;> first | omega | (simp <;> omega)))))))) ?_, (by repeat (first | with_reducible exact Below.refl _ _ | with_reducible assumption | (with_reducible refine Below.drew ?_) | (with_reducible refine Below.alloc ?_ ?_ _; rotate_left; (first | omega | (simp <;> omega))) | (with_reducible refine Below.setCell ?_ ?_ _; rotate_left; (first | omega | (simp <;> omega))) | (with_reducible refine below_drewN ?_ _) | (refine Below.trans ?_ (Below.mono (by with_reducible assumption) (by first | omega | (simp <;> omega))))))⟩
              · (first | omega | (simp <;> omega))
              · intro k hk
                obtain ⟨hk1, hk2⟩ := hk
                simp at hk1 hk2 ⊢
                omega
          case rest =>
            obtain ⟨g2, A3, c3, rfl, rfl, hg2, hx, hs3, hbx⟩ := hcut
            have hkg2 : (Value.slice AK ks.length cK).ownBlock ≠ some g2 := fun e => by have := (own_lt R.k _ e).2; omega
            have hkw := Lib.hid (own_lt R.k)
            have hgw := Lib.hid (own_lt R.o)
            have hwlt := R.lt
            have R2 := R.next hbx hsz
            have P2 := P.next hbx.size
            have hv2 := hv.keep fun k hk => hbx.block k (P.lt k hk).2
            clear R P hv HP H1
            by_cases he : commitErr rv (nth l i) rl size = 0
            · have hb1 : (commitErr rv (nth l i) rl size != 0) = false := by simp [he]
              obtain ⟨hck, hav⟩ := commitErr_ok he
              obtain ⟨_, _, hq1, _, hq2, hq3⟩ := checkRing_eq.1 hck
              have hco := Lib.hid (come_ok he)
              have hX : commitVals rv (nth l i) rl size = rv ++ (nth l i).take (comeN rv (nth l i) size.toNat) := by simp [commitVals, he, comeVals]
              have hXL : commitLost rv (nth l i) rl size = comeLost rv (nth l i) rl size.toNat := by simp [commitLost, he]
              have hn1 : comeN rv (nth l i) size.toNat ≤ (nth l i).length := by unfold comeN; omega
              have hn2 : rv.length + comeN rv (nth l i) size.toNat ≤ 4 := by unfold comeN; omega
              have hXl : (commitVals rv (nth l i) rl size).length = rv.length + comeN rv (nth l i) size.toNat := by rw [hX, List.length_append, List.length_take, Nat.min_eq_left hn1]
              have hXL2 := Lib.hid (show comeLost rv (nth l i) rl size.toNat = min 100000 (rl + (nth l i).length - comeN rv (nth l i) size.toNat) from rfl)
              unfold comeVals at hco
              rw [hXl, hXL] at hx
              rw [hX] at hs3
              clear hX hXL hXl he
              generalize comeN rv (nth l i) size.toNat = n at *
              generalize comeLost rv (nth l i) rl size.toNat = XL at *
              obtain ⟨cx, fx, zx⟩ := blk hx
              have hcellc := (hbx.cell (p := ⟨b, o + i, none⟩) hbW).trans hcellr
              have hringc := (hbx.block w1.heap.size zr).trans hring
              obtain ⟨cq, fq, zq⟩ := blk hringc
              have hbcw := hbel.trans (hbx.mono hsz)
              have hlen : (nth l i).length ≤ 100000000000000 := by omega
              have hbd : (ks.length + n) * 8 ≤ 140737488355328 := by
                have e1 := congrArg List.length hinv.out.1
                rw [List.length_append] at e1
                have := hinv.out.2.1
                omega
              have hsrcN : Src wc A2 n 1 (((nth l i).take n).flatMap fun n => [Value.int .i64 n]) := by
                have := ((hin.next hB hbcw).take n).src
                rwa [List.length_take, Nat.min_eq_left hn1] at this
              have hcapn : ((n : Nat) : Int) ≤ c2 := by have := hin.cap; omega
              have hn0 : (0 : Int) ≤ (n : Nat) := by omega
              have hnl : ((n : Nat) : Int) ≤ (nth l i).length := by omega
              have HI := Lib.hid hinv.out
              clear hinv
              have HS := Lib.hid hs3
              have HR := Lib.hid R2
              have HP := Lib.hid P2
              have hck2 : wc.cell? ⟨w1.heap.size, 0, none⟩ = some (.slice A1 rv.length c1) := (cq 0).trans rfl
              have hck3 : wc.cell? ⟨w1.heap.size, 1, none⟩ = some (.int .i64 rl) := (cq 1).trans rfl
              have hfk2 : wc.frozen? ⟨w1.heap.size, 0, none⟩ = false := fq 0
              have hfk3 : wc.frozen? ⟨w1.heap.size, 1, none⟩ = false := fq 1
              have hcx2 : wc.cell? ⟨g2, 0, none⟩ = some (.slice A3 (rv.length + n) c3) := (cx 0).trans rfl
              have hcx3 : wc.cell? ⟨g2, 1, none⟩ = some (.int .i64 XL) := (cx 1).trans rfl
              have szc := R2.bel.size
              have hne : g2 ≠ w1.heap.size := by omega
              have hq1 : (rv.length : Int) + (n : Int) - (rv.length : Int) = (n : Int) := by omega
              clear cr fr cx fx cq fq hc0 hc1 hv2 R2 P2 hs3
              have hXL0 : XL - rl = if 100000 - rl < ((nth l i).length : Int) - (n : Int) then 100000 - rl else ((nth l i).length : Int) - (n : Int) := by rw [hXL2.out]; split <;> omega
              go_upto_if 79 with (fail)
              go_cut [15] (fun v wx => v = .int .i64 (XL - rl) ∧ wx = wc)
              case first =>
                rcases Int.lt_or_le (100000 - rl) (((nth l i).length : Int) - (n : Int)) with hlost | hlost
                · rw [if_pos hlost] at hXL0
                  go_wp2_with fail
                  go_meet
                  exact ⟨by rw [hXL0], rfl⟩
                · rw [if_neg (by omega)] at hXL0
                  go_wp2_with fail
                  go_meet
                  exact ⟨by rw [hXL0], rfl⟩
              case rest =>
                obtain ⟨rfl, rfl⟩ := hcut
                have hxb : -1000000 ≤ XL - rl ∧ XL - rl ≤ 1000000 := by split at hXL0 <;> omega
                clear hXL0
                have hown := HR.out.k
                have hkr := HR.out.kg
                go_wp2_with ((at_builtin; refine wpList_app ?_ (.tmp 90) (.tmp 96) _ ?_ (w.heap.size) tyInt (.slice AK ks.length cK) ks.length (ks.flatMap fun n => [Value.int .i64 n]) ?_ ?_ A2 n c2 (((nth l i).take n).flatMap fun n => [Value.int .i64 n]) ?_ ?_ (one_int _) ?_ ?_ ?_ ?_; rfl; rfl; rfl; exact HR.out.k; rfl; exact hsrcN; (first | (unfold maxLen; omega) | (simp only [maxLen]; omega)); (omega); (first | exact Nat.le_refl _ | exact Below.size (by assumption) | omega | (simp <;> omega)); intro A4 c4 w4 hown4 hg_w4 hat_w4; refine have_then (P := w4.heap[g2]? = some (.cells #[.slice A3 (rv.length + n) c3, .int .i64 XL] 24)) ?_ (fun x_w4 => ?_); (focus (refine (hg_w4.block _ ?_ ?_).trans ?_; (first | omega | (simp <;> omega)); (first | omega | exact Ne.symm (by assumption) | (intro e; have hlt := (World.ownsRow.lt hown _ e.symm).1; omega) | (simp [Value.ownBlock] <;> omega)); (repeat (first | with_reducible exact heap_set2 (by with_reducible assumption) | with_reducible exact heap_set2 (heapAt _ _ _ rfl) | with_reducible exact heap_set1 (by with_reducible assumption) | with_reducible exact heap_set1 (heapAt _ _ _ rfl) | with_reducible assumption | (with_reducible refine heapAt _ _ _ ?_; first | rfl | (first | omega | (simp <;> omega))) | (with_reducible refine heap_drew ?_) | (with_reducible refine heap_drewN ?_) | (with_reducible refine (heap_alloc_old _ _ ?_).trans ?_; (first | omega | (simp <;> omega))) | (with_reducible refine heap_set_far ?_ ?_; rotate_left; (first | omega | (simp <;> omega))))); done)); obtain ⟨cx_w4, fx_w4, zx_w4⟩ := blk x_w4; refine have_then (P := w4.heap[w1.heap.size]? = some (.cells #[.slice A1 rv.length c1, .int .i64 rl] 24)) ?_ (fun r_w4 => ?_); (focus (refine (hg_w4.block _ ?_ ?_).trans ?_; (first | omega | (simp <;> omega)); (first | omega | exact Ne.symm (by assumption) | (intro e; have hlt := (World.ownsRow.lt hown _ e.symm).1; omega) | (simp [Value.ownBlock] <;> omega)); (repeat (first | with_reducible exact heap_set2 (by with_reducible assumption) | with_reducible exact heap_set2 (heapAt _ _ _ rfl) | with_reducible exact heap_set1 (by with_reducible assumption) | with_reducible exact heap_set1 (heapAt _ _ _ rfl) | with_reducible assumption | (with_reducible refine heapAt _ _ _ ?_; first | rfl | (first | omega | (simp <;> omega))) | (with_reducible refine heap_drew ?_) | (with_reducible refine heap_drewN ?_) | (with_reducible refine (heap_alloc_old _ _ ?_).trans ?_; (first | omega | (simp <;> omega))) | (with_reducible refine heap_set_far ?_ ?_; rotate_left; (first | omega | (simp <;> omega))))); done)); obtain ⟨cr_w4, fr_w4, zr_w4⟩ := blk r_w4; refine have_then (P := Below w.heap.size w w4) ?_ (fun h_w4 => ?_); (focus (refine Below.grown ?_ hg_w4 ?_ ?_; (focus ((repeat (first | with_reducible exact Below.refl _ _ | with_reducible assumption | (with_reducible refine Below.drew ?_) | (with_reducible refine Below.alloc ?_ ?_ _; rotate_left; (first | omega | (simp <;> omega))) | (with_reducible refine Below.setCell ?_ ?_ _; rotate_left; (first | omega | (simp <;> omega))) | (with_reducible refine below_drewN ?_ _) | (refine Below.trans ?_ (Below.mono (by with_reducible assumption) (by first | omega | (simp <;> omega)))))); done)); (first | exact Nat.le_refl _ | exact Below.size (by assumption) | omega | (simp <;> omega)); (intro kk hkk; first | (simp [Value.ownBlock] at hkk; omega) | (have hlt := (World.ownsRow.lt hown kk hkk).1; omega)); done)); have s_w4 := Below.size h_w4))
                rw [← List.flatMap_append] at hown4
                have hKL : (ks ++ (nth l i).take n).length = ks.length + n := by rw [List.length_append, List.length_take, Nat.min_eq_left hn1]
                have R4 := (HR.out.kept szc hown4 hg_w4 hat_w4).set A3 (rv.length + n) c3 XL
                have S4 : Sl cInt (fun k => wr.heap.size ≤ k ∧ k < wc.heap.size ∧ k ≠ g2) w4 A3 c3 (rv ++ (nth l i).take n) := HS.out.keep fun k hk => hg_w4.block k hk.2.1 fun e => by have := (hkw.out k e.symm).2; omega
                have S5 : Sl cInt (fun k => wr.heap.size ≤ k ∧ k < wc.heap.size ∧ k ≠ g2) ((w4.setCell ⟨w1.heap.size, 0, none⟩ (.slice A3 (rv.length + n) c3)).setCell ⟨w1.heap.size, 1, none⟩ (.int .i64 XL)) A3 c3 (rv ++ (nth l i).take n) :=
                  S4.keep fun k hk => (Below.heap_setCell _ _ _ _ (show k ≠ w1.heap.size by omega)).trans (Below.heap_setCell _ _ _ _ (show k ≠ w1.heap.size by omega))
                have szg := hg_w4.size
                have P5 : Apt w.heap.size w1.heap.size ((w4.setCell ⟨w1.heap.size, 0, none⟩ (.slice A3 (rv.length + n) c3)).setCell ⟨w1.heap.size, 1, none⟩ (.int .i64 XL)) (.slice A4 (ks.length + n) c4) (.slice AG gs.length cG) (fun k => wr.heap.size ≤ k ∧ k < wc.heap.size ∧ k ≠ g2) := by
                  refine ⟨fun b hb => ⟨by omega, by simp; omega⟩, fun h => by omega, fun b hb h => ?_, fun b hb h => by have := (hgw.out b hb).2; omega⟩
                  rcases hat_w4 with e | e
                  · have := (hkw.out b (e.symm.trans hb)).2; omega
                  · rw [hb] at e; injection e with e; omega
                have hrl : (rv ++ (nth l i).take n).length = rv.length + n := by rw [List.length_append, List.length_take, Nat.min_eq_left hn1]
                have HI5 := Lib.hid (show ks ++ (nth l i).take n = gs ++ (rv ++ (nth l i).take n) by rw [HI.out.1, List.append_assoc])
                have HR5 := Lib.hid R4
                have HS5 := Lib.hid S5
                have HP5 := Lib.hid P5
                have HGL := Lib.hid HI.out.2.1
                have HKL := Lib.hid hKL
                have HRL := Lib.hid hrl
                clear R4 S4 S5 P5 hown4 hg_w4 hat_w4 HR HS HP HI hkw hgw hown hsrcN hKL hrl
                generalize (nth l i).take n = tn at *
                go_wp2_with fail
                go_loopw [9, 16] (fun gv kv wx => ∃ (k : Nat) (gs2 rv2 : List Int) (AG2 A5 : Option Addr) (cG2 c5 : Nat) (I2 : Nat → Prop), k ≤ 3 ∧ kv = .int .i64 k ∧ gv = .slice AG2 gs2.length cG2 ∧ Rows2 w.heap.size w1.heap.size w wx (.slice A4 (ks.length + n) c4) (.slice AG2 gs2.length cG2) (ks.length + n) gs2.length (ks ++ tn) gs2 (.agg #[.slice A5 rv2.length c5, .int .i64 XL]) ∧ Sl cInt I2 wx A5 c5 rv2 ∧ Apt w.heap.size w1.heap.size wx (.slice A4 (ks.length + n) c4) (.slice AG2 gs2.length cG2) I2 ∧ Hid (ks ++ tn = gs2 ++ rv2 ∧ gs2.length ≤ gs.length + k ∧ checkRing rv2 XL size = 0)) (fun _ kv _ => 3 - (intOf kv).toNat)
                case atStart => exact ⟨0, gs, rv ++ tn, AG, A3, cG, c3, _, by omega, rfl, rfl, by rw [HRL.out]; exact HR5.out, HS5.out, HP5.out, ⟨HI5.out, by omega, hco.out⟩⟩
                case round =>
                  obtain ⟨k, gs2, rv2, AG2, A5, cG2, c5, I2, hk3, rfl, rfl, R2, S2, P2, hI2⟩ := hrel
                  have HI2 := Lib.hid hI2.out
                  have hck5 := hI2.out.2.2
                  have hring2 : wr.heap[w1.heap.size]? = some (.cells #[.slice A5 rv2.length c5, .int .i64 XL] 24) := by obtain ⟨A, n, c, l, e, hg⟩ := R2.ring; cases e; exact hg
                  obtain ⟨cr, fr, zr⟩ := blk hring2
                  have hbel2 := R2.bel
                  have sz2 := hbel2.size
                  have hr4 := (checkRing_eq.1 hck5).2.2.1
                  have HR2 := Lib.hid R2
                  have HS2 := Lib.hid S2
                  have HP2 := Lib.hid P2
                  have HPl := Lib.hid P2.lt
                  by_cases hgi : i < gets.length
                  · obtain ⟨bg, og, rfl, hIg, hcg⟩ := hs'.at_int hgi
                    have hcg2 := (hbel2.cell (p := ⟨bg, og + i, none⟩) (Nat.lt_of_lt_of_le hIg hB)).trans hcg
                    obtain ⟨b1, b2⟩ := hg _ (nth_mem hgi)
                    obtain ⟨d1, d2⟩ := chosen_lt (nth gets i) 4 (by omega)
                    have hgi1 : (i : Int) < gets.length := by omega
                    have HCH := Lib.hid (fun W => lawChoose (nth gets i) 4 W b1 b2 (by omega) (by omega))
                    by_cases hkc : (k : Int) < chosen (nth gets i) 4
                    · have hk2 : k < 3 := by omega
                      have HRC := Lib.hid (fun W A c (hx : Sl cInt (Low W.heap.size) W A c rv2) => mailReceiveS rv2 XL size A c W.heap.size W (Nat.le_refl _) hx)
                      have q1 : recvVals rv2 XL size = restOf rv2 := by simp [recvVals, hck5]
                      have q2 : recvLost rv2 XL size = XL := by simp [recvLost, hck5]
                      have q3 : recvV rv2 XL size = takeV rv2 := by simp [recvV, hck5]
                      have q4 : recvErr rv2 XL size = 0 := hck5
                      rw [q1, q2, q3, q4] at HRC
                      clear q1 q2 q3 q4 R2 S2 P2 hI2
                      have hkW := Lib.hid (own_lt HR2.out.k)
                      have hgW := Lib.hid (own_lt HR2.out.o)
                      have hval := (checkRing_eq.1 hck5).2.2.2.1
                      cases rv2 with
                      | nil =>
                        simp only [List.length_nil] at HRC hring2
                        simp only [restOf, takeV, List.tail_nil, List.length_nil] at HRC
                        go_wp2_with (go_at_call 22; refine (HCH.out _).mono ?_; rintro e w9 ⟨rfl, rfl⟩)
                        (go_at_call 14; refine (HRC.out _ A5 c5 (Sl.mono (HS2.out.keepI (by repeat (first | with_reducible exact KeepI.refl _ _ | (with_reducible refine KeepI.drew ?_) | (with_reducible refine KeepI.drewN ?_ _) | ((with_reducible refine KeepI.alloc ?_ ?_ _); rotate_left; (intro kI hkI; have hlI := HPl.out kI hkI; first | omega | (simp <;> omega)))))) (by intro kI hkI; have hlI := HPl.out kI hkI; simp only [Low]; first | omega | (simp <;> omega)))).mono ?_; rintro e w6 ⟨A6, c6, rfl, hs6, hb_w6⟩; refine have_then (P := w6.heap[w1.heap.size]? = some (.cells #[.slice A5 0 c5, .int .i64 XL] 24)) ?_ (fun r_w6 => ?_); (focus (refine (hb_w6.block _ ?_).trans ?_; (first | omega | (simp <;> omega)); (repeat (first | with_reducible exact heap_set2 (by with_reducible assumption) | with_reducible exact heap_set2 (heapAt _ _ _ rfl) | with_reducible exact heap_set1 (by with_reducible assumption) | with_reducible exact heap_set1 (heapAt _ _ _ rfl) | with_reducible assumption | (with_reducible refine heapAt _ _ _ ?_; first | rfl | (first | omega | (simp <;> omega))) | (with_reducible refine heap_drew ?_) | (with_reducible refine heap_drewN ?_) | (with_reducible refine (heap_alloc_old _ _ ?_).trans ?_; (first | omega | (simp <;> omega))) | (with_reducible refine heap_set_far ?_ ?_; rotate_left; (first | omega | (simp <;> omega))))); done)); obtain ⟨cr_w6, fr_w6, zr_w6⟩ := blk r_w6; refine have_then (P := Below w.heap.size w w6) ?_ (fun h_w6 => ?_); (focus ((repeat (first | with_reducible exact Below.refl _ _ | with_reducible assumption | (with_reducible refine Below.drew ?_) | (with_reducible refine Below.alloc ?_ ?_ _; rotate_left; (first | omega | (simp <;> omega))) | (with_reducible refine Below.setCell ?_ ?_ _; rotate_left; (first | omega | (simp <;> omega))) | (with_reducible refine below_drewN ?_ _) | (refine Below.trans ?_ (Below.mono (by with_reducible assumption) (by first | omega | (simp <;> omega)))))); done)); have s_w6 := Below.size h_w6; have t_w6 := Below.size hb_w6; (try simp at t_w6); revert hb_w6; intro hb_w6)
                        go_wp2_with fail
                        go_roundw
                        case rel =>
                          have s6 := hb_w6.size
                          refine ⟨k + 1, gs2, [], AG2, A6, cG2, c6, Rng wr.heap.size w6.heap.size, by omega, by go_num, rfl, ((HR2.out.next hb_w6 sz2).set A6 0 c6 XL).next (by repeat (first | with_reducible exact Below.refl _ _ | with_reducible assumption | (with_reducible refine Below.drew ?_) | (with_reducible refine Below.alloc ?_ ?_ _; rotate_left; (first | omega | (simp <;> omega))) | (with_reducible refine Below.setCell ?_ ?_ _; rotate_left; (first | omega | (simp <;> omega))) | (with_reducible refine below_drewN ?_ _) | (refine Below.trans ?_ (Below.mono (by with_reducible assumption) (by first | omega | (simp <;> omega)))))) (by first | omega | (simp <;> omega)), hs6.keepI (by repeat (first | with_reducible exact KeepI.refl _ _ | with_reducible assumption | (with_reducible refine KeepI.drew ?_) | (with_reducible refine KeepI.drewN ?_ _) | ((with_reducible refine KeepI.alloc ?_ ?_ _); rotate_left; (intro kkI hkI; simp only [Low, Rng, LoR] at hkI; first | omega | (simp <;> omega) | (rcases hkI with hkI | hkI <;> first | omega | (simp <;> omega)))) | ((with_reducible refine KeepI.setCell ?_ ?_ _); rotate_left; (intro hkI; simp only [Low, Rng, LoR] at hkI; first | omega | (simp at hkI <;> omega))) | (refine KeepI.call ?_ (by with_reducible assumption) (by (intro kkI hkI; simp only [Low, Rng, LoR] at hkI; first | omega | (simp <;> omega) | (rcases hkI with hkI | hkI <;> first | omega | (simp <;> omega))))))), ?_, ⟨HI2.out.1, by have := HI2.out.2.1; omega, HI2.out.2.2⟩⟩
                          exact ⟨fun b hb => ⟨by have := hb.1; omega, by have := hb.2; simp; omega⟩, fun h => by have := h.1; omega, fun b hb h => by have := (hkW.out b hb).2; have := h.1; omega, fun b hb h => by have := (hgW.out b hb).2; have := h.1; omega⟩
                        case measure => simp [intOf]; omega
                      | cons v vs =>
                        have hv := areValues_iff.1 hval v (by simp)
                        have hv0 : 0 ≤ v := hv.1
                        have hlz : (((vs.length : Int) + 1) == 0) = false := by simp; omega
                        have hvb : decide (v < 0) = false := by simp; omega
                        simp only [restOf, takeV, List.tail_cons, List.length_cons] at HRC
                        simp only [List.length_cons] at hring2
                        have hok := Lib.hid (rest_ok hck5)
                        go_wp2_with (go_at_call 22; refine (HCH.out _).mono ?_; rintro e w9 ⟨rfl, rfl⟩)
                        (go_at_call 14; refine (HRC.out _ A5 c5 (Sl.mono (HS2.out.keepI (by repeat (first | with_reducible exact KeepI.refl _ _ | (with_reducible refine KeepI.drew ?_) | (with_reducible refine KeepI.drewN ?_ _) | ((with_reducible refine KeepI.alloc ?_ ?_ _); rotate_left; (intro kI hkI; have hlI := HPl.out kI hkI; first | omega | (simp <;> omega)))))) (by intro kI hkI; have hlI := HPl.out kI hkI; simp only [Low]; first | omega | (simp <;> omega)))).mono ?_; rintro e w6 ⟨A6, c6, rfl, hs6, hb_w6⟩; refine have_then (P := w6.heap[w1.heap.size]? = some (.cells #[.slice A5 (vs.length + 1) c5, .int .i64 XL] 24)) ?_ (fun r_w6 => ?_); (focus (refine (hb_w6.block _ ?_).trans ?_; (first | omega | (simp <;> omega)); (repeat (first | with_reducible exact heap_set2 (by with_reducible assumption) | with_reducible exact heap_set2 (heapAt _ _ _ rfl) | with_reducible exact heap_set1 (by with_reducible assumption) | with_reducible exact heap_set1 (heapAt _ _ _ rfl) | with_reducible assumption | (with_reducible refine heapAt _ _ _ ?_; first | rfl | (first | omega | (simp <;> omega))) | (with_reducible refine heap_drew ?_) | (with_reducible refine heap_drewN ?_) | (with_reducible refine (heap_alloc_old _ _ ?_).trans ?_; (first | omega | (simp <;> omega))) | (with_reducible refine heap_set_far ?_ ?_; rotate_left; (first | omega | (simp <;> omega))))); done)); obtain ⟨cr_w6, fr_w6, zr_w6⟩ := blk r_w6; refine have_then (P := Below w.heap.size w w6) ?_ (fun h_w6 => ?_); (focus ((repeat (first | with_reducible exact Below.refl _ _ | with_reducible assumption | (with_reducible refine Below.drew ?_) | (with_reducible refine Below.alloc ?_ ?_ _; rotate_left; (first | omega | (simp <;> omega))) | (with_reducible refine Below.setCell ?_ ?_ _; rotate_left; (first | omega | (simp <;> omega))) | (with_reducible refine below_drewN ?_ _) | (refine Below.trans ?_ (Below.mono (by with_reducible assumption) (by first | omega | (simp <;> omega)))))); done)); have s_w6 := Below.size h_w6; have t_w6 := Below.size hb_w6; (try simp at t_w6); revert hb_w6; intro hb_w6)
                        have R6 := HR2.out.next hb_w6 sz2
                        have hown := R6.o
                        have hog := R6.og
                        have hot : (Value.slice AG2 gs2.length cG2).ownBlock ≠ some w6.heap.size := fun e => by have := (own_lt R6.o _ e).2; omega
                        have hol := Lib.hid (own_lt R6.o)
                        have HR6 := Lib.hid R6
                        clear R6
                        have hbd2 : (gs2.length + 1) * 8 ≤ 140737488355328 := by have := HI2.out.2.1; have := HGL.out; omega
                        go_wp2_with ((at_builtin; refine wpList_app ?_ (.tmp 134) (.tmp 136) _ ?_ (w.heap.size) tyInt (.slice AG2 gs2.length cG2) gs2.length (gs2.flatMap fun n => [Value.int .i64 n]) ?_ ?_ (some ⟨w6.heap.size + 1, 0, none⟩) 1 1 [.int .i64 v] ?_ ?_ (one_one rfl) ?_ ?_ ?_ ?_; rfl; rfl; rfl; exact ((hown.alloc _).alloc _); rfl; exact (src_new (by simp) rfl); (first | (unfold maxLen; omega) | (simp only [maxLen]; omega)); (omega); (first | exact Nat.le_refl _ | exact Below.size (by assumption) | omega | (simp <;> omega)); intro A7 c7 w7 hown7 hg_w7 hat_w7; refine have_then (P := w7.heap[w6.heap.size]? = some (.cells #[.slice A6 vs.length c6, .int .i64 XL] 24)) ?_ (fun t_w7 => ?_); (focus (refine (hg_w7.block _ ?_ ?_).trans ?_; (first | omega | (simp <;> omega)); (first | omega | exact Ne.symm (by assumption) | (intro e; have hlt := (World.ownsRow.lt hown _ e.symm).1; omega) | (simp [Value.ownBlock] <;> omega)); (repeat (first | with_reducible exact heap_set2 (by with_reducible assumption) | with_reducible exact heap_set2 (heapAt _ _ _ rfl) | with_reducible exact heap_set1 (by with_reducible assumption) | with_reducible exact heap_set1 (heapAt _ _ _ rfl) | with_reducible assumption | (with_reducible refine heapAt _ _ _ ?_; first | rfl | (first | omega | (simp <;> omega))) | (with_reducible refine heap_drew ?_) | (with_reducible refine heap_drewN ?_) | (with_reducible refine (heap_alloc_old _ _ ?_).trans ?_; (first | omega | (simp <;> omega))) | (with_reducible refine heap_set_far ?_ ?_; rotate_left; (first | omega | (simp <;> omega))))); done)); obtain ⟨ct_w7, ft_w7, zt_w7⟩ := blk t_w7; refine have_then (P := w7.heap[w1.heap.size]? = some (.cells #[.slice A5 (vs.length + 1) c5, .int .i64 XL] 24)) ?_ (fun r_w7 => ?_); (focus (refine (hg_w7.block _ ?_ ?_).trans ?_; (first | omega | (simp <;> omega)); (first | omega | exact Ne.symm (by assumption) | (intro e; have hlt := (World.ownsRow.lt hown _ e.symm).1; omega) | (simp [Value.ownBlock] <;> omega)); (repeat (first | with_reducible exact heap_set2 (by with_reducible assumption) | with_reducible exact heap_set2 (heapAt _ _ _ rfl) | with_reducible exact heap_set1 (by with_reducible assumption) | with_reducible exact heap_set1 (heapAt _ _ _ rfl) | with_reducible assumption | (with_reducible refine heapAt _ _ _ ?_; first | rfl | (first | omega | (simp <;> omega))) | (with_reducible refine heap_drew ?_) | (with_reducible refine heap_drewN ?_) | (with_reducible refine (heap_alloc_old _ _ ?_).trans ?_; (first | omega | (simp <;> omega))) | (with_reducible refine heap_set_far ?_ ?_; rotate_left; (first | omega | (simp <;> omega))))); done)); obtain ⟨cr_w7, fr_w7, zr_w7⟩ := blk r_w7; refine have_then (P := Below w.heap.size w w7) ?_ (fun h_w7 => ?_); (focus (refine Below.grown ?_ hg_w7 ?_ ?_; (focus ((repeat (first | with_reducible exact Below.refl _ _ | with_reducible assumption | (with_reducible refine Below.drew ?_) | (with_reducible refine Below.alloc ?_ ?_ _; rotate_left; (first | omega | (simp <;> omega))) | (with_reducible refine Below.setCell ?_ ?_ _; rotate_left; (first | omega | (simp <;> omega))) | (with_reducible refine below_drewN ?_ _) | (refine Below.trans ?_ (Below.mono (by with_reducible assumption) (by first | omega | (simp <;> omega)))))); done)); (first | exact Nat.le_refl _ | exact Below.size (by assumption) | omega | (simp <;> omega)); (intro kk hkk; first | (simp [Value.ownBlock] at hkk; omega) | (have hlt := (World.ownsRow.lt hown kk hkk).1; omega)); done)); have s_w7 := Below.size h_w7))
                        go_roundw
                        case rel =>
                          have s6 := hb_w6.size
                          have s7 := hg_w7.size
                          simp at s7
                          rw [show gs2.flatMap (fun n => [Value.int .i64 n]) ++ [Value.int .i64 v] = (gs2 ++ [v]).flatMap (fun n => [Value.int .i64 n]) by simp] at hown7
                          have R6b := HR2.out.next (W' := (w6.alloc (.cells #[.slice A6 vs.length c6, .int .i64 XL] 24)).alloc (.cells #[.int .i64 v] 3)) (by repeat (first | with_reducible exact Below.refl _ _ | with_reducible assumption | (with_reducible refine Below.drew ?_) | (with_reducible refine Below.alloc ?_ ?_ _; rotate_left; (first | omega | (simp <;> omega))) | (with_reducible refine Below.setCell ?_ ?_ _; rotate_left; (first | omega | (simp <;> omega))) | (with_reducible refine below_drewN ?_ _) | (refine Below.trans ?_ (Below.mono (by with_reducible assumption) (by first | omega | (simp <;> omega)))))) sz2
                          have R7 := (R6b.got (by simp; omega) hown7 hg_w7 hat_w7).set A6 vs.length c6 XL
                          have K7 : KeepI (Rng wr.heap.size w6.heap.size) w6 w7 := KeepI.grown (show KeepI (Rng wr.heap.size w6.heap.size) w6 ((w6.alloc (.cells #[.slice A6 vs.length c6, .int .i64 XL] 24)).alloc (.cells #[.int .i64 v] 3)) from (by repeat (first | with_reducible exact KeepI.refl _ _ | with_reducible assumption | (with_reducible refine KeepI.drew ?_) | (with_reducible refine KeepI.drewN ?_ _) | ((with_reducible refine KeepI.alloc ?_ ?_ _); rotate_left; (intro kkI hkI; simp only [Low, Rng, LoR] at hkI; first | omega | (simp <;> omega) | (rcases hkI with hkI | hkI <;> first | omega | (simp <;> omega)))) | ((with_reducible refine KeepI.setCell ?_ ?_ _); rotate_left; (intro hkI; simp only [Low, Rng, LoR] at hkI; first | omega | (simp at hkI <;> omega))) | (refine KeepI.call ?_ (by with_reducible assumption) (by (intro kkI hkI; simp only [Low, Rng, LoR] at hkI; first | omega | (simp <;> omega) | (rcases hkI with hkI | hkI <;> first | omega | (simp <;> omega)))))))) hg_w7 (fun kk hkk => ⟨by have := hkk.2; simp; omega, fun e => by have := (hgW.out kk e).2; have := hkk.1; omega⟩)
                          refine ⟨k + 1, gs2 ++ [v], vs, A7, A6, c7, c6, Rng wr.heap.size w6.heap.size, by omega, by go_num, by simp, by simpa using R7, (hs6.keepI K7).keepI (by repeat (first | with_reducible exact KeepI.refl _ _ | with_reducible assumption | (with_reducible refine KeepI.drew ?_) | (with_reducible refine KeepI.drewN ?_ _) | ((with_reducible refine KeepI.alloc ?_ ?_ _); rotate_left; (intro kkI hkI; simp only [Low, Rng, LoR] at hkI; first | omega | (simp <;> omega) | (rcases hkI with hkI | hkI <;> first | omega | (simp <;> omega)))) | ((with_reducible refine KeepI.setCell ?_ ?_ _); rotate_left; (intro hkI; simp only [Low, Rng, LoR] at hkI; first | omega | (simp at hkI <;> omega))) | (refine KeepI.call ?_ (by with_reducible assumption) (by (intro kkI hkI; simp only [Low, Rng, LoR] at hkI; first | omega | (simp <;> omega) | (rcases hkI with hkI | hkI <;> first | omega | (simp <;> omega))))))), ?_, ⟨by rw [HI2.out.1]; simp, by have := HI2.out.2.1; simp; omega, hok.out⟩⟩
                          refine ⟨fun b hb => ⟨by have := hb.1; omega, by have := hb.2; simp; omega⟩, fun h => by have := h.1; omega, fun b hb h => by have := (hkW.out b hb).2; have := h.1; omega, fun b hb h => ?_⟩
                          have h1 := h.1
                          have h2 := h.2
                          simp only [List.length_append, List.length_singleton] at hb
                          rcases hat_w7 with e | e
                          · have := (hgW.out b (e.symm.trans hb)).2; omega
                          · rw [hb] at e; injection e with e; simp at e; omega
                        case measure => simp [intOf]; omega
                    · clear R2 S2 P2 hI2
                      go_wp2_with (go_at_call 22; refine (HCH.out _).mono ?_; rintro e w9 ⟨rfl, rfl⟩)
                      go_roundw
                      case rel =>
                        have e1 := HI2.out.2.1
                        exact ⟨i + 1, ks ++ tn, gs2, rv2, XL, A4, AG2, A5, c4, cG2, c5, I2, by omega, by go_num, by rw [HKL.out], rfl, by rw [HKL.out]; exact HR2.out, HS2.out, by rw [HKL.out]; exact HP2.out, ⟨HI2.out.1, by have := HGL.out; omega, HI2.out.2.2⟩⟩
                      case measure => simp [intOf]; omega
                  · have hgi1 : ¬ (i : Int) < gets.length := by omega
                    clear R2 S2 P2 hI2
                    go_wp2_with fail
                    go_roundw
                    case rel =>
                      have e1 := HI2.out.2.1
                      exact ⟨i + 1, ks ++ tn, gs2, rv2, XL, A4, AG2, A5, c4, cG2, c5, I2, by omega, by go_num, by rw [HKL.out], rfl, by rw [HKL.out]; exact HR2.out, HS2.out, by rw [HKL.out]; exact HP2.out, ⟨HI2.out.1, by have := HGL.out; omega, HI2.out.2.2⟩⟩
                    case measure => simp [intOf]; omega
            · have hb1 : (commitErr rv (nth l i) rl size != 0) = true := by simp [he]
              go_wp2
              go_roundw
              case rel => exact ⟨i + 1, ks, gs, rv, rl, AK, AG, A1, cK, cG, c1, I, by omega, by go_num, rfl, rfl, R2, hv2, P2, ⟨hinv.out.1, by have := hinv.out.2.1; omega, hinv.out.2.2⟩⟩
              case measure => simp [intOf]; omega
        · have hown := R.o
          have hrl := (checkRing_eq.1 hinv.out.2.2).2.2.1
          have hgl := hinv.out.2.1
          have HE := Lib.hid hinv.out.1
          have H2 := Lib.hid (fun W A3 c3 A4 c4 B (hB : B ≤ W.heap.size) (hx : Sl cInt (Low B) W A3 c3 (gs ++ rv)) (hz : Sl cInt (Low B) W A4 c4 ks) => by
            have h9 := refSameInts (gs ++ rv) ks A3 A4 c3 c4 B W hB hx hz
            rw [show decide (gs ++ rv = ks) = true from decide_eq_true HE.out.symm, List.length_append] at h9
            exact h9)
          clear hinv
          go_wp2_with ((at_builtin; refine wpList_app ?_ (.tmp 139) (.tmp 141) _ ?_ (w.heap.size) tyInt (.slice AG gs.length cG) gs.length (gs.flatMap fun n => [Value.int .i64 n]) ?_ ?_ A1 rv.length c1 (rv.flatMap fun n => [Value.int .i64 n]) ?_ ?_ (one_int _) ?_ ?_ ?_ ?_; rfl; rfl; rfl; exact R.o; rfl; exact hv.src; (first | (unfold maxLen; omega) | (simp only [maxLen]; omega)); (omega); (first | exact Nat.le_refl _ | exact Below.size (by assumption) | omega | (simp <;> omega)); intro A3 c3 w3 hown3 hg_w3 hat_w3; refine have_then (P := Below w.heap.size w w3) ?_ (fun h_w3 => ?_); (focus (refine Below.grown ?_ hg_w3 ?_ ?_; (focus ((repeat (first | with_reducible exact Below.refl _ _ | with_reducible assumption | (with_reducible refine Below.drew ?_) | (with_reducible refine Below.alloc ?_ ?_ _; rotate_left; (first | omega | (simp <;> omega))) | (with_reducible refine Below.setCell ?_ ?_ _; rotate_left; (first | omega | (simp <;> omega))) | (with_reducible refine below_drewN ?_ _) | (refine Below.trans ?_ (Below.mono (by with_reducible assumption) (by first | omega | (simp <;> omega)))))); done)); (first | exact Nat.le_refl _ | exact Below.size (by assumption) | omega | (simp <;> omega)); (intro kk hkk; first | (simp [Value.ownBlock] at hkk; omega) | (have hlt := (World.ownsRow.lt hown kk hkk).1; omega)); done)); have s_w3 := Below.size h_w3))
          go_at_call 23
          rw [← List.flatMap_append] at hown3
          have R3 := R.got hsz hown3 hg_w3 hat_w3
          refine (H2.out w3 A3 c3 AK cK w3.heap.size (Nat.le_refl _) ?_ ?_).mono ?_
          · have h3 := (own_int (by simp) hown3).rng (Nat.le_refl _)
            exact h3
          · exact (own_int rfl R3.k).rng (Nat.le_refl _)
          · rintro e w4 ⟨rfl, hb4⟩
            go_wp2
            go_ret
            exact ⟨ret_bool (by simp), (by repeat (first | with_reducible exact Below.refl _ _ | with_reducible assumption | (with_reducible refine Below.drew ?_) | (with_reducible refine Below.alloc ?_ ?_ _; rotate_left; (first | omega | (simp <;> omega))) | (with_reducible refine Below.setCell ?_ ?_ _; rotate_left; (first | omega | (simp <;> omega))) | (with_reducible refine below_drewN ?_ _) | (refine Below.trans ?_ (Below.mono (by with_reducible assumption) (by first | omega | (simp <;> omega))))))⟩
    · go_enter Try.func4, Try.ntmps4
      go_wp2_with fail
      (go_at_call 19; refine (H6.out _).mono ?_; rintro e w1 ⟨rfl, hb_w1⟩; refine have_then (P := Below w.heap.size w w1) ?_ (fun h_w1 => ?_); (focus ((repeat (first | with_reducible exact Below.refl _ _ | with_reducible assumption | (with_reducible refine Below.drew ?_) | (with_reducible refine Below.alloc ?_ ?_ _; rotate_left; (first | omega | (simp <;> omega))) | (with_reducible refine Below.setCell ?_ ?_ _; rotate_left; (first | omega | (simp <;> omega))) | (with_reducible refine below_drewN ?_ _) | (refine Below.trans ?_ (Below.mono (by with_reducible assumption) (by first | omega | (simp <;> omega)))))); done)); have s_w1 := Below.size h_w1; have t_w1 := Below.size hb_w1; (try simp at t_w1); revert hb_w1; intro hb_w1)
      go_wp2_with fail
      (go_at_call 19; refine (H6.out _).mono ?_; rintro e w2 ⟨rfl, hb_w2⟩; refine have_then (P := Below w.heap.size w w2) ?_ (fun h_w2 => ?_); (focus ((repeat (first | with_reducible exact Below.refl _ _ | with_reducible assumption | (with_reducible refine Below.drew ?_) | (with_reducible refine Below.alloc ?_ ?_ _; rotate_left; (first | omega | (simp <;> omega))) | (with_reducible refine Below.setCell ?_ ?_ _; rotate_left; (first | omega | (simp <;> omega))) | (with_reducible refine below_drewN ?_ _) | (refine Below.trans ?_ (Below.mono (by with_reducible assumption) (by first | omega | (simp <;> omega)))))); done)); have s_w2 := Below.size h_w2; have t_w2 := Below.size hb_w2; (try simp at t_w2); revert hb_w2; intro hb_w2)
      go_wp2
      go_ret
      exact ⟨ret_bool (by simp), (by repeat (first | with_reducible exact Below.refl _ _ | with_reducible assumption | (with_reducible refine Below.drew ?_) | (with_reducible refine Below.alloc ?_ ?_ _; rotate_left; (first | omega | (simp <;> omega))) | (with_reducible refine Below.setCell ?_ ?_ _; rotate_left; (first | omega | (simp <;> omega))) | (with_reducible refine below_drewN ?_ _) | (refine Below.trans ?_ (Below.mono (by with_reducible assumption) (by first | omega | (simp <;> omega))))))⟩
  · go_enter Try.func4, Try.ntmps4
    go_wp2_with fail
    (go_at_call 19; refine (H6.out _).mono ?_; rintro e w1 ⟨rfl, hb_w1⟩; refine have_then (P := Below w.heap.size w w1) ?_ (fun h_w1 => ?_); (focus ((repeat (first | with_reducible exact Below.refl _ _ | with_reducible assumption | (with_reducible refine Below.drew ?_) | (with_reducible refine Below.alloc ?_ ?_ _; rotate_left; (first | omega | (simp <;> omega))) | (with_reducible refine Below.setCell ?_ ?_ _; rotate_left; (first | omega | (simp <;> omega))) | (with_reducible refine below_drewN ?_ _) | (refine Below.trans ?_ (Below.mono (by with_reducible assumption) (by first | omega | (simp <;> omega)))))); done)); have s_w1 := Below.size h_w1; have t_w1 := Below.size hb_w1; (try simp at t_w1); revert hb_w1; intro hb_w1)
    go_wp2_with fail
    (go_at_call 19; refine (H6.out _).mono ?_; rintro e w2 ⟨rfl, hb_w2⟩; refine have_then (P := Below w.heap.size w w2) ?_ (fun h_w2 => ?_); (focus ((repeat (first | with_reducible exact Below.refl _ _ | with_reducible assumption | (with_reducible refine Below.drew ?_) | (with_reducible refine Below.alloc ?_ ?_ _; rotate_left; (first | omega | (simp <;> omega))) | (with_reducible refine Below.setCell ?_ ?_ _; rotate_left; (first | omega | (simp <;> omega))) | (with_reducible refine below_drewN ?_ _) | (refine Below.trans ?_ (Below.mono (by with_reducible assumption) (by first | omega | (simp <;> omega)))))); done)); have s_w2 := Below.size h_w2; have t_w2 := Below.size hb_w2; (try simp at t_w2); revert hb_w2; intro hb_w2)
    go_wp2
    go_ret
    exact ⟨ret_bool (by simp), (by repeat (first | with_reducible exact Below.refl _ _ | with_reducible assumption | (with_reducible refine Below.drew ?_) | (with_reducible refine Below.alloc ?_ ?_ _; rotate_left; (first | omega | (simp <;> omega))) | (with_reducible refine Below.setCell ?_ ?_ _; rotate_left; (first | omega | (simp <;> omega))) | (with_reducible refine below_drewN ?_ _) | (refine Below.trans ?_ (Below.mono (by with_reducible assumption) (by first | omega | (simp <;> omega))))))⟩
end Go.Proofs.Ytinlmkhlgclbfaa
