/-
  DecI: contract of config.Decode.
-/
import Derived.Test.YtinlmkhlgclbfaaDecH
namespace Go.Proofs.Ytinlmkhlgclbfaa
open Go.RowKit
set_option maxRecDepth 100000
set_option maxHeartbeats 1000000

theorem cfg_set {w : World} {g : Nat} {t : TypeId} {fr : Nat × Nat} {v0 v1 v2 v3 v4 v5 v6 v7 v8 u0 u1 u2 u3 u4 u5 u6 u7 u8 : Value} (h : w.heap[g]? = some (.cells #[v0, v1, v2, v3, v4, v5, v6, v7, v8] t fr)) :
    (((((((((w.setCell ⟨g, 0, none⟩ u0).setCell ⟨g, 1, none⟩ u1).setCell ⟨g, 2, none⟩ u2).setCell ⟨g, 3, none⟩ u3).setCell ⟨g, 4, none⟩ u4).setCell ⟨g, 5, none⟩ u5).setCell ⟨g, 6, none⟩ u6).setCell ⟨g, 7, none⟩ u7).setCell ⟨g, 8, none⟩ u8).heap[g]? = some (.cells #[u0, u1, u2, u3, u4, u5, u6, u7, u8] t fr) := by
  have e := heap_set_same (i := 8) (u := u8) (heap_set_same (i := 7) (u := u7) (heap_set_same (i := 6) (u := u6) (heap_set_same (i := 5) (u := u5) (heap_set_same (i := 4) (u := u4) (heap_set_same (i := 3) (u := u3) (heap_set_same (i := 2) (u := u2) (heap_set_same (i := 1) (u := u1) (heap_set_same (i := 0) (u := u0) h))))))))
  simpa using e
/-- the same, with the blocks' numbers' cells at hand -/
theorem cfg_set_cells {w : World} {g : Nat} {t : TypeId} {v0 v1 v2 v3 v4 v5 v6 v7 v8 u0 u1 u2 u3 u4 u5 u6 u7 u8 : Value} (h : w.heap[g]? = some (.cells #[v0, v1, v2, v3, v4, v5, v6, v7, v8] t (0, 0))) :
    ∀ oo, (((((((((w.setCell ⟨g, 0, none⟩ u0).setCell ⟨g, 1, none⟩ u1).setCell ⟨g, 2, none⟩ u2).setCell ⟨g, 3, none⟩ u3).setCell ⟨g, 4, none⟩ u4).setCell ⟨g, 5, none⟩ u5).setCell ⟨g, 6, none⟩ u6).setCell ⟨g, 7, none⟩ u7).setCell ⟨g, 8, none⟩ u8).cell? ⟨g, oo, none⟩ = #[u0, u1, u2, u3, u4, u5, u6, u7, u8][oo]? := (blk (cfg_set h)).1

theorem cfg_set_cells_alloc {w : World} {g : Nat} {t : TypeId} {v0 v1 v2 v3 v4 v5 v6 v7 v8 u0 u1 u2 u3 u4 u5 u6 u7 u8 : Value} (h : w.heap[g]? = some (.cells #[v0, v1, v2, v3, v4, v5, v6, v7, v8] t (0, 0))) (ob : Obj) :
    ∀ oo, ((((((((((w.setCell ⟨g, 0, none⟩ u0).setCell ⟨g, 1, none⟩ u1).setCell ⟨g, 2, none⟩ u2).setCell ⟨g, 3, none⟩ u3).setCell ⟨g, 4, none⟩ u4).setCell ⟨g, 5, none⟩ u5).setCell ⟨g, 6, none⟩ u6).setCell ⟨g, 7, none⟩ u7).setCell ⟨g, 8, none⟩ u8).alloc ob).cell? ⟨g, oo, none⟩ = #[u0, u1, u2, u3, u4, u5, u6, u7, u8][oo]? := fun oo =>
  (World.cell?_alloc_lt _ _ _ (by have := (Array.getElem?_eq_some_iff.1 h).1; simpa using this)).trans (cfg_set_cells h oo)

/-- a call that hands back a config, a place and an errno; the config's slices lie in memory of the call's own -/
def RetDec (c : TCfg) (at_ err : Int) (w : World) (e : Ending) (w' : World) : Prop :=
  ∃ S, e = .returned (.tuple #[.agg #[.int .i64 c.sets, .int .i64 c.ways, .int .i64 c.doms, .int .i64 c.pad, .int .i64 c.quantum, .slice S.a0 c.slots.length S.n0, .slice S.a1 c.owners.length S.n1, .slice S.a2 c.chans.length S.n2, .slice S.a3 c.tasks.length S.n3], .int .i64 at_, .int .i64 err]) ∧ TCfg.At (Rng w.heap.size w'.heap.size) w' c S ∧ Below w.heap.size w w'

theorem noCfg_at (I : Nat → Prop) (w : World) : TCfg.At I w noCfg ⟨none, 0, none, 0, none, 0, none, 0⟩ := ⟨Sl.empty _ _ _, Sl.empty _ _ _, Sl.empty _ _ _, Sl.empty _ _ _⟩

set_option maxHeartbeats 8000000 in
theorem configDecode (s : ByteArray) (w : World) (hs : s.size ≤ 9223372036854775807) :
    Calls Try.prog 45 #[.string s] w (RetDec (decRes (bytesOf s)) (decPlace (bytesOf s)) (decErr (bytesOf s)) w) := by
  have hlen := bytesOf_length s
  by_cases hm : 200 < s.size
  · have R1 := Lib.hid (show decErr (bytesOf s) = 2 by unfold decErr; rw [if_pos (by omega)])
    have R2 := Lib.hid (show decPlace (bytesOf s) = 0 by unfold decPlace; rw [if_pos (by omega)])
    have R3 := Lib.hid (show decRes (bytesOf s) = noCfg by unfold decRes; rw [R1.out]; rfl)
    have hd : decide (200 < s.size) = true := by simpa using hm
    have hd2 : decide (200 < (s.size : Int)) = true := by simp; omega
    clear hm hlen
    go_enter Try.func45, Try.ntmps45
    go_wp2_with fail
    refine bodyPost_ret (v := .tuple #[.agg #[.int .i64 0, .int .i64 0, .int .i64 0, .int .i64 0, .int .i64 0, .slice none 0 0, .slice none 0 0, .slice none 0 0, .slice none 0 0], .int .i64 0, .int .i64 2]) (by simp [results, Try.results45, go_sem, *]) rfl ?_
    rw [R1.out, R2.out, R3.out]
    exact ⟨⟨none, 0, none, 0, none, 0, none, 0⟩, rfl, noCfg_at _ _, (by repeat (first | with_reducible exact Below.refl _ _ | with_reducible assumption | (with_reducible refine Below.drew ?_) | (with_reducible refine Below.alloc ?_ ?_ _; rotate_left; (first | omega | (simp <;> omega))) | (with_reducible refine Below.setCell ?_ ?_ _; rotate_left; (first | omega | (simp <;> omega))) | (with_reducible refine below_drewN ?_ _) | (refine Below.trans ?_ (Below.mono (by with_reducible assumption) (by first | omega | (simp <;> omega))))))⟩
  have hd : decide (200 < s.size) = false := by simpa using hm
  have hd2 : decide (200 < (s.size : Int)) = false := by simp; omega
  have HR := Lib.hid (fun W => configRead s W (by omega))
  have RF := Lib.hid (fun (n : Nat) (h : decFault (bytesOf s) = n) => show decErr (bytesOf s) = 1 ∧ decPlace (bytesOf s) = n ∧ decRes (bytesOf s) = noCfg by
    have h1 : decErr (bytesOf s) = 1 := by unfold decErr; rw [if_neg (by omega), if_pos (by omega)]
    refine ⟨h1, ?_, ?_⟩
    · unfold decPlace; rw [if_neg (by omega), if_pos (by omega), h]
    · unfold decRes; rw [h1]; rfl)
  have RG := Lib.hid (fun (h : decFault (bytesOf s) = -1) => show decErr (bytesOf s) = checkConfig (decCfg (bytesOf s)) ∧ decPlace (bytesOf s) = 0 ∧ decRes (bytesOf s) = if checkConfig (decCfg (bytesOf s)) = 0 then decCfg (bytesOf s) else noCfg by
    have h1 : decErr (bytesOf s) = checkConfig (decCfg (bytesOf s)) := by unfold decErr; rw [if_neg (by omega), if_neg (by omega)]
    refine ⟨h1, ?_, ?_⟩
    · unfold decPlace; rw [if_neg (by omega), if_neg (by omega)]
    · unfold decRes; rw [h1])
  clear hlen hm
  generalize decErr (bytesOf s) = DE at *
  generalize decPlace (bytesOf s) = DP at *
  generalize decRes (bytesOf s) = DR at *
  go_enter Try.func45, Try.ntmps45
  go_wp2_with fail
  go_at_call 91
  refine (HR.out _).mono ?_
  rintro e w1 (⟨h, S, rfl, hat, hb⟩ | ⟨n, h, rfl, hb⟩)
  · obtain ⟨e1, e2, e3⟩ := RG.out h
    have zz := hb.size
    simp at zz
    have t0 : w1.heap[w.heap.size]? = some (.cells #[.int .i64 0, .int .i64 0, .int .i64 0, .int .i64 0, .int .i64 0, .slice none 0 0, .slice none 0 0, .slice none 0 0, .slice none 0 0] 63) := (hb.block _ (by simp)).trans (by (repeat (first | with_reducible exact heap_set2 (by with_reducible assumption) | with_reducible exact heap_set2 (heapAt _ _ _ rfl) | with_reducible exact heap_set1 (by with_reducible assumption) | with_reducible exact heap_set1 (heapAt _ _ _ rfl) | with_reducible assumption | (with_reducible refine heapAt _ _ _ ?_; first | rfl | (first | omega | (simp <;> omega))) | (with_reducible refine heap_drew ?_) | (with_reducible refine heap_drewN ?_) | (with_reducible refine (heap_alloc_old _ _ ?_).trans ?_; (first | omega | (simp <;> omega))) | (with_reducible refine heap_set_far ?_ ?_; rotate_left; (first | omega | (simp <;> omega))))))
    obtain ⟨c0, f0, z0⟩ := blk t0
    have HC := Lib.hid (fun W (hh : Below w1.heap.size w1 W) => configCheck (decCfg (bytesOf s)) S w1.heap.size W hh.size ((hat.rng (Nat.le_refl _)).next (Nat.le_refl _) hh))
    clear h RG RF HR
    generalize decCfg (bytesOf s) = D at *
    cases b1 : (checkConfig D == 0)
    · replace e3 : DR = noCfg := by rw [e3, if_neg (by simpa using b1)]
      subst e1; subst e2; subst e3
      have b2 : (checkConfig D != 0) = true := by simpa using b1
      generalize checkConfig D = CE at *
      go_wp2_with fail
      (go_at_call 42; refine (HC.out _ (by repeat (first | with_reducible exact Below.refl _ _ | with_reducible assumption | (with_reducible refine Below.drew ?_) | (with_reducible refine Below.alloc ?_ ?_ _; rotate_left; (first | omega | (simp <;> omega))) | (with_reducible refine Below.setCell ?_ ?_ _; rotate_left; (first | omega | (simp <;> omega))) | (with_reducible refine below_drewN ?_ _) | (refine Below.trans ?_ (Below.mono (by with_reducible assumption) (by first | omega | (simp <;> omega))))))).mono ?_; rintro e w2 ⟨rfl, hb_w2⟩; refine have_then (P := w2.heap[w.heap.size]? = some (.cells #[.int .i64 0, .int .i64 0, .int .i64 0, .int .i64 0, .int .i64 0, .slice none 0 0, .slice none 0 0, .slice none 0 0, .slice none 0 0] 63)) ?_ (fun r_w2 => ?_); (focus (refine (hb_w2.block _ ?_).trans ?_; (first | omega | (simp <;> omega)); (repeat (first | with_reducible exact heap_set2 (by with_reducible assumption) | with_reducible exact heap_set2 (heapAt _ _ _ rfl) | with_reducible exact heap_set1 (by with_reducible assumption) | with_reducible exact heap_set1 (heapAt _ _ _ rfl) | with_reducible assumption | (with_reducible refine heapAt _ _ _ ?_; first | rfl | (first | omega | (simp <;> omega))) | (with_reducible refine heap_drew ?_) | (with_reducible refine heap_drewN ?_) | (with_reducible refine (heap_alloc_old _ _ ?_).trans ?_; (first | omega | (simp <;> omega))) | (with_reducible refine heap_set_far ?_ ?_; rotate_left; (first | omega | (simp <;> omega))))); done)); obtain ⟨cr_w2, fr_w2, zr_w2⟩ := blk r_w2; refine have_then (P := Below w.heap.size w w2) ?_ (fun h_w2 => ?_); (focus ((repeat (first | with_reducible exact Below.refl _ _ | with_reducible assumption | (with_reducible refine Below.drew ?_) | (with_reducible refine Below.alloc ?_ ?_ _; rotate_left; (first | omega | (simp <;> omega))) | (with_reducible refine Below.setCell ?_ ?_ _; rotate_left; (first | omega | (simp <;> omega))) | (with_reducible refine below_drewN ?_ _) | (refine Below.trans ?_ (Below.mono (by with_reducible assumption) (by first | omega | (simp <;> omega)))))); done)); have s_w2 := Below.size h_w2; have t_w2 := Below.size hb_w2; (try simp at t_w2); revert hb_w2; intro hb_w2)
      go_wp2_with fail
      refine bodyPost_ret (v := .tuple #[.agg #[.int .i64 0, .int .i64 0, .int .i64 0, .int .i64 0, .int .i64 0, .slice none 0 0, .slice none 0 0, .slice none 0 0, .slice none 0 0], .int .i64 0, .int .i64 CE]) (by simp [results, Try.results45, go_sem, cfg_set_cells r_w2]) rfl ?_
      exact ⟨⟨none, 0, none, 0, none, 0, none, 0⟩, rfl, noCfg_at _ _, (by repeat (first | with_reducible exact Below.refl _ _ | with_reducible assumption | (with_reducible refine Below.drew ?_) | (with_reducible refine Below.alloc ?_ ?_ _; rotate_left; (first | omega | (simp <;> omega))) | (with_reducible refine Below.setCell ?_ ?_ _; rotate_left; (first | omega | (simp <;> omega))) | (with_reducible refine below_drewN ?_ _) | (refine Below.trans ?_ (Below.mono (by with_reducible assumption) (by first | omega | (simp <;> omega))))))⟩
    · replace e3 : DR = D := by rw [e3, if_pos (by simpa using b1)]
      have b3 : checkConfig D = 0 := by simpa using b1
      rw [b3] at e1 HC
      subst e1; subst e2; subst e3
      clear b1 b3
      go_wp2_with fail
      (go_at_call 42; refine (HC.out _ (by repeat (first | with_reducible exact Below.refl _ _ | with_reducible assumption | (with_reducible refine Below.drew ?_) | (with_reducible refine Below.alloc ?_ ?_ _; rotate_left; (first | omega | (simp <;> omega))) | (with_reducible refine Below.setCell ?_ ?_ _; rotate_left; (first | omega | (simp <;> omega))) | (with_reducible refine below_drewN ?_ _) | (refine Below.trans ?_ (Below.mono (by with_reducible assumption) (by first | omega | (simp <;> omega))))))).mono ?_; rintro e w2 ⟨rfl, hb_w2⟩; refine have_then (P := w2.heap[w.heap.size]? = some (.cells #[.int .i64 0, .int .i64 0, .int .i64 0, .int .i64 0, .int .i64 0, .slice none 0 0, .slice none 0 0, .slice none 0 0, .slice none 0 0] 63)) ?_ (fun r_w2 => ?_); (focus (refine (hb_w2.block _ ?_).trans ?_; (first | omega | (simp <;> omega)); (repeat (first | with_reducible exact heap_set2 (by with_reducible assumption) | with_reducible exact heap_set2 (heapAt _ _ _ rfl) | with_reducible exact heap_set1 (by with_reducible assumption) | with_reducible exact heap_set1 (heapAt _ _ _ rfl) | with_reducible assumption | (with_reducible refine heapAt _ _ _ ?_; first | rfl | (first | omega | (simp <;> omega))) | (with_reducible refine heap_drew ?_) | (with_reducible refine heap_drewN ?_) | (with_reducible refine (heap_alloc_old _ _ ?_).trans ?_; (first | omega | (simp <;> omega))) | (with_reducible refine heap_set_far ?_ ?_; rotate_left; (first | omega | (simp <;> omega))))); done)); obtain ⟨cr_w2, fr_w2, zr_w2⟩ := blk r_w2; refine have_then (P := w2.heap[w1.heap.size]? = some (.cells #[.int .i64 DR.sets, .int .i64 DR.ways, .int .i64 DR.doms, .int .i64 DR.pad, .int .i64 DR.quantum, .slice S.a0 DR.slots.length S.n0, .slice S.a1 DR.owners.length S.n1, .slice S.a2 DR.chans.length S.n2, .slice S.a3 DR.tasks.length S.n3] 63)) ?_ (fun x_w2 => ?_); (focus (refine (hb_w2.block _ ?_).trans ?_; (first | omega | (simp <;> omega)); (repeat (first | with_reducible exact heap_set2 (by with_reducible assumption) | with_reducible exact heap_set2 (heapAt _ _ _ rfl) | with_reducible exact heap_set1 (by with_reducible assumption) | with_reducible exact heap_set1 (heapAt _ _ _ rfl) | with_reducible assumption | (with_reducible refine heapAt _ _ _ ?_; first | rfl | (first | omega | (simp <;> omega))) | (with_reducible refine heap_drew ?_) | (with_reducible refine heap_drewN ?_) | (with_reducible refine (heap_alloc_old _ _ ?_).trans ?_; (first | omega | (simp <;> omega))) | (with_reducible refine heap_set_far ?_ ?_; rotate_left; (first | omega | (simp <;> omega))))); done)); obtain ⟨cx_w2, fx_w2, zx_w2⟩ := blk x_w2; refine have_then (P := Below w.heap.size w w2) ?_ (fun h_w2 => ?_); (focus ((repeat (first | with_reducible exact Below.refl _ _ | with_reducible assumption | (with_reducible refine Below.drew ?_) | (with_reducible refine Below.alloc ?_ ?_ _; rotate_left; (first | omega | (simp <;> omega))) | (with_reducible refine Below.setCell ?_ ?_ _; rotate_left; (first | omega | (simp <;> omega))) | (with_reducible refine below_drewN ?_ _) | (refine Below.trans ?_ (Below.mono (by with_reducible assumption) (by first | omega | (simp <;> omega)))))); done)); have s_w2 := Below.size h_w2; have t_w2 := Below.size hb_w2; (try simp at t_w2); revert hb_w2; intro hb_w2)
      go_wp2_with fail
      refine bodyPost_ret (v := .tuple #[.agg #[.int .i64 DR.sets, .int .i64 DR.ways, .int .i64 DR.doms, .int .i64 DR.pad, .int .i64 DR.quantum, .slice S.a0 DR.slots.length S.n0, .slice S.a1 DR.owners.length S.n1, .slice S.a2 DR.chans.length S.n2, .slice S.a3 DR.tasks.length S.n3], .int .i64 0, .int .i64 0]) (by simp [results, Try.results45, go_sem, cfg_set_cells r_w2]) rfl ?_
      refine ⟨S, rfl, ?_, (by repeat (first | with_reducible exact Below.refl _ _ | with_reducible assumption | (with_reducible refine Below.drew ?_) | (with_reducible refine Below.alloc ?_ ?_ _; rotate_left; (first | omega | (simp <;> omega))) | (with_reducible refine Below.setCell ?_ ?_ _; rotate_left; (first | omega | (simp <;> omega))) | (with_reducible refine below_drewN ?_ _) | (refine Below.trans ?_ (Below.mono (by with_reducible assumption) (by first | omega | (simp <;> omega))))))⟩
      refine (hat.keepI (by repeat (first | with_reducible exact KeepI.refl _ _ | with_reducible assumption | (with_reducible refine KeepI.drew ?_) | (with_reducible refine KeepI.drewN ?_ _) | ((with_reducible refine KeepI.alloc ?_ ?_ _); rotate_left; (intro kkI hkI; simp only [Low, Rng, LoR] at hkI; first | omega | (simp <;> omega) | (rcases hkI with hkI | hkI <;> first | omega | (simp <;> omega)))) | ((with_reducible refine KeepI.setCell ?_ ?_ _); rotate_left; (intro hkI; simp only [Low, Rng, LoR] at hkI; first | omega | (simp at hkI <;> omega))) | (refine KeepI.call ?_ (by with_reducible assumption) (by (intro kkI hkI; simp only [Low, Rng, LoR] at hkI; first | omega | (simp <;> omega) | (rcases hkI with hkI | hkI <;> first | omega | (simp <;> omega)))))))).mono ?_
      intro b hb
      simp only [Rng] at hb ⊢
      simp at hb ⊢
      omega
  · obtain ⟨e1, e2, e3⟩ := RF.out n h
    subst e1; subst e2; subst e3
    have zz := hb.size
    simp at zz
    have t0 : w1.heap[w.heap.size]? = some (.cells #[.int .i64 0, .int .i64 0, .int .i64 0, .int .i64 0, .int .i64 0, .slice none 0 0, .slice none 0 0, .slice none 0 0, .slice none 0 0] 63) := (hb.block _ (by simp)).trans (by (repeat (first | with_reducible exact heap_set2 (by with_reducible assumption) | with_reducible exact heap_set2 (heapAt _ _ _ rfl) | with_reducible exact heap_set1 (by with_reducible assumption) | with_reducible exact heap_set1 (heapAt _ _ _ rfl) | with_reducible assumption | (with_reducible refine heapAt _ _ _ ?_; first | rfl | (first | omega | (simp <;> omega))) | (with_reducible refine heap_drew ?_) | (with_reducible refine heap_drewN ?_) | (with_reducible refine (heap_alloc_old _ _ ?_).trans ?_; (first | omega | (simp <;> omega))) | (with_reducible refine heap_set_far ?_ ?_; rotate_left; (first | omega | (simp <;> omega))))))
    obtain ⟨c0, f0, z0⟩ := blk t0
    clear h RG RF HR
    go_wp2_with fail
    refine bodyPost_ret (v := .tuple #[.agg #[.int .i64 0, .int .i64 0, .int .i64 0, .int .i64 0, .int .i64 0, .slice none 0 0, .slice none 0 0, .slice none 0 0, .slice none 0 0], .int .i64 n, .int .i64 1]) (by simp [results, Try.results45, go_sem, cfg_set_cells_alloc t0]) rfl ?_
    exact ⟨⟨none, 0, none, 0, none, 0, none, 0⟩, rfl, noCfg_at _ _, (by repeat (first | with_reducible exact Below.refl _ _ | with_reducible assumption | (with_reducible refine Below.drew ?_) | (with_reducible refine Below.alloc ?_ ?_ _; rotate_left; (first | omega | (simp <;> omega))) | (with_reducible refine Below.setCell ?_ ?_ _; rotate_left; (first | omega | (simp <;> omega))) | (with_reducible refine below_drewN ?_ _) | (refine Below.trans ?_ (Below.mono (by with_reducible assumption) (by first | omega | (simp <;> omega))))))⟩
theorem strOf_data (bs : List Int) : (strOf bs).data.toList = bs.map fun n => UInt8.ofNat n.toNat := by
  unfold strOf
  have key : ∀ (r : ByteArray), (bs.foldl (fun r n => r.push (UInt8.ofNat n.toNat)) r).data.toList = r.data.toList ++ bs.map fun n => UInt8.ofNat n.toNat := by
    induction bs with
    | nil => intro r; simp
    | cons x l ih => intro r; rw [List.foldl_cons, ih, ByteArray.data_push]; simp
  rw [key]
  rfl
theorem bytesOf_strOf {bs : List Int} (h : ∀ x ∈ bs, 0 ≤ x ∧ x ≤ 255) : bytesOf (strOf bs) = bs := by
  unfold bytesOf
  rw [strOf_data, List.map_map]
  conv => rhs; rw [← List.map_id bs]
  refine List.map_congr_left fun x hx => ?_
  have := h x hx
  show (((UInt8.ofNat x.toNat).toNat : Nat) : Int) = x
  rw [UInt8.toNat_ofNat']
  omega
theorem strOf_bytesOf (s : ByteArray) : strOf (bytesOf s) = s := by
  have h : (strOf (bytesOf s)).data.toList = s.data.toList := by
    rw [strOf_data]
    unfold bytesOf
    rw [List.map_map]
    conv => rhs; rw [← List.map_id s.data.toList]
    refine List.map_congr_left fun b _ => ?_
    show UInt8.ofNat ((b.toNat : Int).toNat) = b
    simp
  cases hs : s with
  | mk d =>
    rw [hs] at h
    cases hq : strOf (bytesOf ⟨d⟩) with
    | mk d' => rw [hq] at h; congr 1; exact Array.toList_inj.1 h
theorem strOf_sz (bs : List Int) : (strOf bs).size = bs.length := by
  show (strOf bs).data.size = _
  rw [← Array.length_toList, strOf_data, List.length_map]
theorem bytes_bytesOf (s : ByteArray) : Bytes (bytesOf s) := fun i hi => bytesOf_bd (by rw [bytesOf_length] at hi; exact hi)

/-- what is encoded is decoded as it was -/
theorem dec_of_enc {c : TCfg} (h : checkConfig c = 0) : decErr (encB c) = 0 ∧ decPlace (encB c) = 0 ∧ decRes (encB c) = c ∧ bytesOf (strOf (encB c)) = encB c ∧ (encB c).length ≤ 200 := by
  have ok := checkConfig_ok h
  obtain ⟨h1, h2, h3⟩ := dec_enc ok
  have hf := decFault_none.2 h1
  have e1 : decErr (encB c) = 0 := by unfold decErr; rw [if_neg (by omega), if_neg (by omega), h2]; exact h
  refine ⟨e1, ?_, ?_, bytesOf_strOf (enc_bytes ok), h3⟩
  · unfold decPlace; rw [if_neg (by omega), if_neg (by omega)]
  · unfold decRes; rw [if_pos e1, h2]
/-- and nothing else is -/
theorem enc_of_dec {s : ByteArray} (h : decErr (bytesOf s) = 0) : checkConfig (decRes (bytesOf s)) = 0 ∧ encRes (decRes (bytesOf s)) = bytesOf s := by
  have hd : decRes (bytesOf s) = decCfg (bytesOf s) := by unfold decRes; rw [if_pos h]
  rw [hd]
  have h' := h
  unfold decErr at h'
  split at h'
  · simp at h'
  split at h'
  · simp at h'
  · rename_i _ hf
    refine ⟨h', ?_⟩
    unfold encRes
    rw [if_pos h']
    exact enc_dec (bytes_bytesOf s) (decFault_none.1 (by omega))
theorem decRes_bad {bs : List Int} (h : decErr bs ≠ 0) : decRes bs = noCfg := by unfold decRes; rw [if_neg h]

def oneCfg : TCfg := ⟨1, 1, 1, 10, 4, [⟨0, 100⟩], [], [], [⟨0, 50, 40, 30⟩]⟩
theorem oneCfg_check : checkConfig oneCfg = 0 := by decide +kernel
end Go.Proofs.Ytinlmkhlgclbfaa
