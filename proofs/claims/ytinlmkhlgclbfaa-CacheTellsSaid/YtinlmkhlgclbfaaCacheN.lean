/-
  CacheN: contract of cache.New.
-/
import Derived.Test.YtinlmkhlgclbfaaCacheB
namespace Go.Proofs.Ytinlmkhlgclbfaa
open Go.RowKit
set_option maxRecDepth 100000
set_option maxHeartbeats 400000

def newErr (sets ways : Int) : Int := if !inB 1 sets 4 || !inB 1 ways 3 then 3 else 0
def newOf (sets ways : Int) : List (List TWay) := if newErr sets ways = 0 then emptyCache sets.toNat ways.toNat else []
/-- a new cache and an errno come back -/
def RetCacheE (c : List (List TWay)) (e : Int) (w : World) (en : Ending) (w' : World) : Prop := ∃ A n, en = .returned (.tuple #[.agg #[.slice A c.length n], .int .i64 e]) ∧ OCache (Rng w.heap.size w'.heap.size) w' (.slice A c.length n) c ∧ Below w.heap.size w w'
def RetCacheI (c : List (List TWay)) (v : Int) (w : World) (en : Ending) (w' : World) : Prop := ∃ A n, en = .returned (.tuple #[.agg #[.slice A c.length n], .int .i64 v]) ∧ OCache (Rng w.heap.size w'.heap.size) w' (.slice A c.length n) c ∧ Below w.heap.size w w'
def RetCacheIE (c : List (List TWay)) (v e : Int) (w : World) (en : Ending) (w' : World) : Prop := ∃ A n, en = .returned (.tuple #[.agg #[.slice A c.length n], .int .i64 v, .int .i64 e]) ∧ OCache (Rng w.heap.size w'.heap.size) w' (.slice A c.length n) c ∧ Below w.heap.size w w'
theorem ocache_nil (F : Nat → Prop) (w : World) : OCache F w (.slice none 0 0) [] := OSl.nil _ _ _ _

theorem cacheNew (sets ways : Int) (w : World) : Calls Try.prog 24 #[.int .i64 sets, .int .i64 ways] w (RetCacheE (newOf sets ways) (newErr sets ways) w) := by
  by_cases h1 : inB 1 sets 4 = true
  · by_cases h2 : inB 1 ways 3 = true
    · obtain ⟨a1, a2⟩ := inB_true.1 h1
      obtain ⟨b1, b2⟩ := inB_true.1 h2
      have E : newErr sets ways = 0 := by simp [newErr, h1, h2]
      have E2 : newOf sets ways = emptyCache sets.toNat ways.toNat := by simp [newOf, E]
      rw [E, E2]
      obtain ⟨m, rfl⟩ := Int.eq_ofNat_of_zero_le (show 0 ≤ sets by omega)
      obtain ⟨k, rfl⟩ := Int.eq_ofNat_of_zero_le (show 0 ≤ ways by omega)
      simp only [Int.toNat_natCast]
      have H := Lib.hid (fun W => cacheEmpty m k W (by omega) (by omega))
      have HL := Lib.hid (show (emptyCache m k).length = m by simp [emptyCache])
      generalize emptyCache m k = c at *
      clear E E2
      go_enter Try.func24, Try.ntmps24
      go_wp2_with (first | (go_at_call 68; refine (cacheWithin _ _ _ _).mono ?_; rintro e w' ⟨rfl, rfl⟩) | (go_at_call 69; refine (H.out _).mono ?_; rintro e w1 ⟨A1, c1, rfl, hO, hb1⟩; have B1 : Below w.heap.size w w1 := (by repeat (first | with_reducible exact Below.refl _ _ | with_reducible assumption | (with_reducible refine Below.drew ?_) | (with_reducible refine Below.alloc ?_ ?_ _; rotate_left; (first | omega | (simp <;> omega))) | (with_reducible refine Below.setCell ?_ ?_ _; rotate_left; (first | omega | (simp <;> omega))) | (with_reducible refine below_drewN ?_ _) | (refine Below.trans ?_ (Below.mono (by with_reducible assumption) (by first | omega | (simp <;> omega)))))); obtain ⟨hcw, hfw⟩ := bcell hb1))
      have s1 := hb1.size
      refine bodyPost_ret (v := .tuple #[.agg #[.slice A1 c.length c1], .int .i64 0]) (by simp [results, Try.results24, go_sem, *]) rfl ?_
      refine ⟨A1, c1, rfl, OSl.mono (OSl.keepI hO (by repeat (first | with_reducible exact KeepI.refl _ _ | with_reducible assumption | (with_reducible refine KeepI.drew ?_) | (with_reducible refine KeepI.drewN ?_ _) | ((with_reducible refine KeepI.alloc ?_ ?_ _); rotate_left; (intro kkI hkI; simp only [Low, Rng, LoR] at hkI; first | omega | (simp <;> omega) | (rcases hkI with hkI | hkI <;> first | omega | (simp <;> omega)))) | ((with_reducible refine KeepI.setCell ?_ ?_ _); rotate_left; (intro hkI; simp only [Low, Rng, LoR] at hkI; first | omega | (simp at hkI <;> omega))) | (refine KeepI.call ?_ (by with_reducible assumption) (by (intro kkI hkI; simp only [Low, Rng, LoR] at hkI; first | omega | (simp <;> omega) | (rcases hkI with hkI | hkI <;> first | omega | (simp <;> omega)))))))) ?_, (by repeat (first | with_reducible exact Below.refl _ _ | with_reducible assumption | (with_reducible refine Below.drew ?_) | (with_reducible refine Below.alloc ?_ ?_ _; rotate_left; (first | omega | (simp <;> omega))) | (with_reducible refine Below.setCell ?_ ?_ _; rotate_left; (first | omega | (simp <;> omega))) | (with_reducible refine below_drewN ?_ _) | (refine Below.trans ?_ (Below.mono (by with_reducible assumption) (by first | omega | (simp <;> omega))))))⟩
      · intro b hb; simp only [Rng] at hb ⊢; simp at hb ⊢; omega
    · have h2 : inB 1 ways 3 = false := by simpa using h2
      have E : newErr sets ways = 3 := by simp [newErr, h1, h2]
      have E2 : newOf sets ways = [] := by simp [newOf, E]
      rw [E, E2]
      clear E E2
      go_enter Try.func24, Try.ntmps24
      go_wp2_with (go_at_call 68; refine (cacheWithin _ _ _ _).mono ?_; rintro e w' ⟨rfl, rfl⟩)
      exact bodyPost_ret (v := .tuple #[.agg #[.slice none 0 0], .int .i64 3]) (by simp [results, Try.results24, go_sem, *]) rfl ⟨none, 0, rfl, ocache_nil _ _, (by repeat (first | with_reducible exact Below.refl _ _ | with_reducible assumption | (with_reducible refine Below.drew ?_) | (with_reducible refine Below.alloc ?_ ?_ _; rotate_left; (first | omega | (simp <;> omega))) | (with_reducible refine Below.setCell ?_ ?_ _; rotate_left; (first | omega | (simp <;> omega))) | (with_reducible refine below_drewN ?_ _) | (refine Below.trans ?_ (Below.mono (by with_reducible assumption) (by first | omega | (simp <;> omega))))))⟩
  · have h1 : inB 1 sets 4 = false := by simpa using h1
    have E : newErr sets ways = 3 := by simp [newErr, h1]
    have E2 : newOf sets ways = [] := by simp [newOf, E]
    rw [E, E2]
    clear E E2
    go_enter Try.func24, Try.ntmps24
    go_wp2_with (go_at_call 68; refine (cacheWithin _ _ _ _).mono ?_; rintro e w' ⟨rfl, rfl⟩)
    exact bodyPost_ret (v := .tuple #[.agg #[.slice none 0 0], .int .i64 3]) (by simp [results, Try.results24, go_sem, *]) rfl ⟨none, 0, rfl, ocache_nil _ _, (by repeat (first | with_reducible exact Below.refl _ _ | with_reducible assumption | (with_reducible refine Below.drew ?_) | (with_reducible refine Below.alloc ?_ ?_ _; rotate_left; (first | omega | (simp <;> omega))) | (with_reducible refine Below.setCell ?_ ?_ _; rotate_left; (first | omega | (simp <;> omega))) | (with_reducible refine below_drewN ?_ _) | (refine Below.trans ?_ (Below.mono (by with_reducible assumption) (by first | omega | (simp <;> omega))))))⟩

end Go.Proofs.Ytinlmkhlgclbfaa
