/-
  DecO: the reference's DecodeOf: the loop that reads the tasks.
-/
import Derived.Test.YtinlmkhlgclbfaaDecQ
namespace Go.Proofs.Ytinlmkhlgclbfaa
open Go.RowKit
set_option maxRecDepth 100000
set_option maxHeartbeats 16000000

theorem loopT (C : Code) (hC : C = decLoop 4) {u0 u2 u3 u4 u5 u6 u7 u9 u13 u14 u15 u16 u17 u19 u20 u21 u22 u23 u24 u25 u26 u27 u28 u29 u30 u31 u32 u33 u34 u35 u36 u37 u38 u39 u40 u41 u42 u43 u44 u45 u46 u47 u48 u49 u50 u51 u52 u53 u54 u55 u56 u57 u58 u59 u60 u61 u62 u63 u64 u65 u66 u67 u68 u69 u70 u71 u72 u73 u74 u75 u76 u77 u78 u79 u80 u81 u82 u83 u84 u85 u86 u87 u88 u89 u90 u91 u92 u93 u94 u95 u96 u97 u98 u99 u100 u101 u102 u103 u104 u105 u106 u107 u108 u109 u110 u111 u112 u113 u114 u115 u116 u117 u118 u119 u120 u121 u122 u123 u124 u125 u126 u127 u128 u129 u130 u131 u132 u133 u134 u135 u136 u137 u138 u139 u140 u141 u142 u143 u144 u145 u146 u147 u148 u149 u150 u151 u152 u153 u154 u155 u156 u157 u158 u159 u160 u161 u162 u163 u164 u165 u166 u167 u168 u169 u170 u171 u172 u173 u174 u175 u176 u177 u178 u179 u180 u181 u182 u183 u184 u185 u186 u187 u188 u189 u190 u191 u192 u193 u194 u195 u196 u197 u198 u199 u200 u201 u202 u203 u204 u205 u206 u207 u208 u209 u210 u211 u212 u213 u214 u215 u216 u217 u218 u219 u220 u221 u222 u223 u224 u225 u226 u227 u228 : Value} (s : ByteArray) (hs : s.size ≤ 200) (g0 gr gc c1 p N : Nat) (hN6 : N ≤ 6) (hp : p + 7 * N < s.size) (hn : nth (bytesOf s) p = (N : Nat)) {h0 h1 h2 h3 h4 y5 y6 y7 : Value} (W0 : World)
    (hg0 : W0.heap[g0]? = some (.cells #[.string s] 9)) (cr : W0.cell? ⟨gr, 3, none⟩ = some (.int .i64 p)) (hgr : gr < W0.heap.size) (hgc : W0.heap[gc]? = some (.cells #[h0, h1, h2, h3, h4, y5, y6, y7, .slice none 0 0] 63)) (d0 : g0 ≠ gc) (d1 : gr ≠ gc)
    (Q : Exit → Act → World → Prop) (hQ : ∀ (A : Option Addr) (n : Nat) (W : World) (v18 v19 v184 v185 v186 v187 v188 v189 v190 v191 v192 v193 v194 v195 v196 v197 v198 v199 v200 v201 v202 v203 v204 v205 v206 v207 v208 v209 v210 v211 v212 v213 v214 v215 v216 v217 v218 v219 v220 : Value), W.heap[gc]? = some (.cells #[h0, h1, h2, h3, h4, y5, y6, y7, .slice A N n] 63) → W.ownsRow W0.heap.size 108 4 (.slice A N n) N ((tasksAt (bytesOf s) (p + 1) N).flatMap TTask.cells) → KeepI (Exc gc W0.heap.size) W0 W → Below gc W0 W →
      Q (.exit 8) ⟨List.toArray (u0 :: .pointer (some ⟨g0, 0, none⟩) :: u2 :: u3 :: u4 :: u5 :: u6 :: u7 :: .slice (some ⟨gr, 0, none⟩) 4 c1 :: u9 :: .func (.func 92) #[] #[.pointer (some ⟨g0, 0, none⟩)] :: .func (.func 93) #[] #[.pointer (some ⟨g0, 0, none⟩)] :: .pointer (some ⟨gc, 0, none⟩) :: u13 :: u14 :: u15 :: u16 :: u17 :: v18 :: v19 :: u20 :: u21 :: u22 :: u23 :: u24 :: u25 :: u26 :: u27 :: u28 :: u29 :: u30 :: u31 :: u32 :: u33 :: u34 :: u35 :: u36 :: u37 :: u38 :: u39 :: u40 :: u41 :: u42 :: u43 :: u44 :: u45 :: u46 :: u47 :: u48 :: u49 :: u50 :: u51 :: u52 :: u53 :: u54 :: u55 :: u56 :: u57 :: u58 :: u59 :: u60 :: u61 :: u62 :: u63 :: u64 :: u65 :: u66 :: u67 :: u68 :: u69 :: u70 :: u71 :: u72 :: u73 :: u74 :: u75 :: u76 :: u77 :: u78 :: u79 :: u80 :: u81 :: u82 :: u83 :: u84 :: u85 :: u86 :: u87 :: u88 :: u89 :: u90 :: u91 :: u92 :: u93 :: u94 :: u95 :: u96 :: u97 :: u98 :: u99 :: u100 :: u101 :: u102 :: u103 :: u104 :: u105 :: u106 :: u107 :: u108 :: u109 :: u110 :: u111 :: u112 :: u113 :: u114 :: u115 :: u116 :: u117 :: u118 :: u119 :: u120 :: u121 :: u122 :: u123 :: u124 :: u125 :: u126 :: u127 :: u128 :: u129 :: u130 :: u131 :: u132 :: u133 :: u134 :: u135 :: u136 :: u137 :: u138 :: u139 :: u140 :: u141 :: u142 :: u143 :: u144 :: u145 :: u146 :: u147 :: u148 :: u149 :: u150 :: u151 :: u152 :: u153 :: u154 :: u155 :: u156 :: u157 :: u158 :: u159 :: u160 :: u161 :: u162 :: u163 :: u164 :: u165 :: u166 :: u167 :: u168 :: u169 :: u170 :: u171 :: u172 :: u173 :: u174 :: u175 :: u176 :: u177 :: u178 :: u179 :: u180 :: u181 :: u182 :: u183 :: v184 :: v185 :: v186 :: v187 :: v188 :: v189 :: v190 :: v191 :: v192 :: v193 :: v194 :: v195 :: v196 :: v197 :: v198 :: v199 :: v200 :: v201 :: v202 :: v203 :: v204 :: v205 :: v206 :: v207 :: v208 :: v209 :: v210 :: v211 :: v212 :: v213 :: v214 :: v215 :: v216 :: v217 :: v218 :: v219 :: v220 :: u221 :: u222 :: u223 :: u224 :: u225 :: u226 :: u227 :: u228 :: []), []⟩ W) :
    Code.wp Try.prog C Q ⟨List.toArray (u0 :: .pointer (some ⟨g0, 0, none⟩) :: u2 :: u3 :: u4 :: u5 :: u6 :: u7 :: .slice (some ⟨gr, 0, none⟩) 4 c1 :: u9 :: .func (.func 92) #[] #[.pointer (some ⟨g0, 0, none⟩)] :: .func (.func 93) #[] #[.pointer (some ⟨g0, 0, none⟩)] :: .pointer (some ⟨gc, 0, none⟩) :: u13 :: u14 :: u15 :: u16 :: u17 :: .int .i64 0 :: u19 :: u20 :: u21 :: u22 :: u23 :: u24 :: u25 :: u26 :: u27 :: u28 :: u29 :: u30 :: u31 :: u32 :: u33 :: u34 :: u35 :: u36 :: u37 :: u38 :: u39 :: u40 :: u41 :: u42 :: u43 :: u44 :: u45 :: u46 :: u47 :: u48 :: u49 :: u50 :: u51 :: u52 :: u53 :: u54 :: u55 :: u56 :: u57 :: u58 :: u59 :: u60 :: u61 :: u62 :: u63 :: u64 :: u65 :: u66 :: u67 :: u68 :: u69 :: u70 :: u71 :: u72 :: u73 :: u74 :: u75 :: u76 :: u77 :: u78 :: u79 :: u80 :: u81 :: u82 :: u83 :: u84 :: u85 :: u86 :: u87 :: u88 :: u89 :: u90 :: u91 :: u92 :: u93 :: u94 :: u95 :: u96 :: u97 :: u98 :: u99 :: u100 :: u101 :: u102 :: u103 :: u104 :: u105 :: u106 :: u107 :: u108 :: u109 :: u110 :: u111 :: u112 :: u113 :: u114 :: u115 :: u116 :: u117 :: u118 :: u119 :: u120 :: u121 :: u122 :: u123 :: u124 :: u125 :: u126 :: u127 :: u128 :: u129 :: u130 :: u131 :: u132 :: u133 :: u134 :: u135 :: u136 :: u137 :: u138 :: u139 :: u140 :: u141 :: u142 :: u143 :: u144 :: u145 :: u146 :: u147 :: u148 :: u149 :: u150 :: u151 :: u152 :: u153 :: u154 :: u155 :: u156 :: u157 :: u158 :: u159 :: u160 :: u161 :: u162 :: u163 :: u164 :: u165 :: u166 :: u167 :: u168 :: u169 :: u170 :: u171 :: u172 :: u173 :: u174 :: u175 :: u176 :: u177 :: u178 :: u179 :: u180 :: u181 :: u182 :: u183 :: u184 :: u185 :: u186 :: u187 :: u188 :: u189 :: u190 :: u191 :: u192 :: u193 :: u194 :: u195 :: u196 :: u197 :: u198 :: u199 :: u200 :: u201 :: u202 :: u203 :: u204 :: u205 :: u206 :: u207 :: u208 :: u209 :: u210 :: u211 :: u212 :: u213 :: u214 :: u215 :: u216 :: u217 :: u218 :: u219 :: u220 :: u221 :: u222 :: u223 :: u224 :: u225 :: u226 :: u227 :: u228 :: []), []⟩ W0 := by
  subst hC
  conv => arg 2; whnf
  have he1 := enters_refByte
  have he2 := enters_refTwo
  unfold Enters at he1 he2
  have HB := Lib.hid (fun (q : Nat) (hq : q < s.size) (W : World) (h : W.heap[g0]? = some (.cells #[.string s] 9)) => refByte s g0 q W h hq (by omega))
  have HT := Lib.hid (fun (q : Nat) (hq : q + 1 < s.size) (W : World) (h : W.heap[g0]? = some (.cells #[.string s] 9)) => refTwo s g0 q W h hq (by omega))
  have hz0 := (blk hg0).2.2
  have hzc := (blk hgc).2.2
  replace hQ := Lib.hid hQ
  go_loopw [18] (fun iv wr => ∃ (i : Nat) (A : Option Addr) (n : Nat), i ≤ N ∧ iv = .int .i64 i ∧ wr.heap[gc]? = some (.cells #[h0, h1, h2, h3, h4, y5, y6, y7, .slice A i n] 63) ∧ wr.ownsRow W0.heap.size 108 4 (.slice A i n) i ((tasksAt (bytesOf s) (p + 1) i).flatMap TTask.cells) ∧ Hid (KeepI (Exc gc W0.heap.size) W0 wr) ∧ Below gc W0 wr) (fun iv _ => N - (intOf iv).toNat)
  case atStart => exact ⟨0, none, 0, Nat.zero_le _, rfl, hgc, ⟨by simp [tasksAt, i64s], .inl ⟨rfl, rfl⟩⟩, Lib.hid (KeepI.refl _ _), Below.refl _ _⟩
  case round =>
    obtain ⟨i, A, n, hi, rfl, hc, hown, hk, hbr⟩ := hrel
    have hsz := hbr.size
    obtain ⟨cc, fc, zc⟩ := blk hc
    have hg1 := (hk.out g0 ⟨d0, hz0⟩).trans hg0
    obtain ⟨c0, f0, z0⟩ := blk hg1
    have cr1 := (cell_heap (hk.out gr ⟨d1, hgr⟩) 3).trans cr
    have hzr : gr < wr.heap.size := by omega
    have n2 : (Value.slice A i n).ownBlock ≠ some gc := fun e => by have := (own_lt hown _ e).1; omega
    have n3 : (Value.slice A i n).ownBlock ≠ some g0 := fun e => by have := (own_lt hown _ e).1; omega
    by_cases hlt : i < N
    · have hi0 : (0 : Int) ≤ i := by omega
      have hi1 : (i : Int) < N := by omega
      have hm : 7 * i + 7 ≤ 7 * N := by omega
      obtain ⟨P1, hP1⟩ : ∃ q : Nat, q = p + 1 := ⟨_, rfl⟩
      have sP1 : (p : Int) + 1 = (P1 : Int) := by omega
      have wP1 : IntKind.i64.wrap (P1 : Int) = (P1 : Int) := IntWalk.i64_in _ (by omega)
      obtain ⟨I3, hI3⟩ : ∃ q : Nat, q = 7 * i := ⟨_, rfl⟩
      have sI3 : 7 * (i : Int) = (I3 : Int) := by omega
      have wI3 : IntKind.i64.wrap (I3 : Int) = (I3 : Int) := IntWalk.i64_in _ (by omega)
      obtain ⟨Q0, hQ0⟩ : ∃ q : Nat, q = P1 + I3 := ⟨_, rfl⟩
      have sQ0 : (P1 : Int) + (I3 : Int) = (Q0 : Int) := by omega
      have wQ0 : IntKind.i64.wrap (Q0 : Int) = (Q0 : Int) := IntWalk.i64_in _ (by omega)
      obtain ⟨Q1, hQ1⟩ : ∃ q : Nat, q = Q0 + 1 := ⟨_, rfl⟩
      have sQ1 : (Q0 : Int) + 1 = (Q1 : Int) := by omega
      have wQ1 : IntKind.i64.wrap (Q1 : Int) = (Q1 : Int) := IntWalk.i64_in _ (by omega)
      obtain ⟨Q3, hQ3⟩ : ∃ q : Nat, q = Q0 + 3 := ⟨_, rfl⟩
      have sQ3 : (Q0 : Int) + 3 = (Q3 : Int) := by omega
      have wQ3 : IntKind.i64.wrap (Q3 : Int) = (Q3 : Int) := IntWalk.i64_in _ (by omega)
      obtain ⟨Q5, hQ5⟩ : ∃ q : Nat, q = Q0 + 5 := ⟨_, rfl⟩
      have sQ5 : (Q0 : Int) + 5 = (Q5 : Int) := by omega
      have wQ5 : IntKind.i64.wrap (Q5 : Int) = (Q5 : Int) := IntWalk.i64_in _ (by omega)
      have HE : Hid ((tasksAt (bytesOf s) (p + 1) (i + 1)).flatMap TTask.cells = (tasksAt (bytesOf s) (p + 1) i).flatMap TTask.cells ++ [.int .i64 (nth (bytesOf s) Q0), .int .i64 (twoB (bytesOf s) Q1), .int .i64 (twoB (bytesOf s) Q3), .int .i64 (twoB (bytesOf s) Q5)]) := Lib.hid (by
        rw [tasksAt_succ]
        rw [List.flatMap_append, show p + 1 + 7 * i = Q0 by omega]
        unfold taskAt
        rw [show Q0 + 1 = Q1 by omega, show Q0 + 3 = Q3 by omega, show Q0 + 5 = Q5 by omega]; rfl)
      have bQ0 : Q0 < s.size := by omega
      have bQ1 : Q1 + 1 < s.size := by omega
      have bQ3 : Q3 + 1 < s.size := by omega
      have bQ5 : Q5 + 1 < s.size := by omega
      have hown' := Lib.hid hown
      clear hm hP1 hI3 hQ0 hQ1 hQ3 hQ5 hown
      go_wp2_with (go_at_call 92; refine (HB.out p (by omega) _ (by first | exact hg1 | exact heap_drewN hg1 | exact heap_drew hg1)).mono ?_; rintro e w1 ⟨rfl, rfl⟩)
      refine wp_region_noPanic ?_
      go_region_law
        (first | (go_simp; go_at_call 92; refine (HB.out _ (by assumption) _ (by first | exact hg1 | exact heap_drewN hg1 | exact heap_drew hg1)).mono ?_; rintro e w1 ⟨rfl, rfl⟩) | (go_simp; go_at_call 93; refine (HT.out _ (by assumption) _ (by first | exact hg1 | exact heap_drewN hg1 | exact heap_drew hg1)).mono ?_; rintro e w1 ⟨rfl, nq, hq⟩; have hg1 : w1.heap[g0]? = some (.cells #[.string s] 9) := (by rw [hq]; exact heap_drewN hg1); have hc : w1.heap[gc]? = some (.cells #[h0, h1, h2, h3, h4, y5, y6, y7, .slice A i n] 63) := (by rw [hq]; exact heap_drewN hc); obtain ⟨cc, fc, zc⟩ := blk hc; have hown' := Lib.hid (show w1.ownsRow W0.heap.size 108 4 (.slice A i n) i ((tasksAt (bytesOf s) (p + 1) i).flatMap TTask.cells) from (by rw [hq]; exact hown'.out)); have hk := Lib.hid (show KeepI (Exc gc W0.heap.size) W0 w1 from (by rw [hq]; exact hk.out)); have hbr : Below gc W0 w1 := (by rw [hq]; exact below_drewN (by first | exact hbr | exact hbr.drew) _); have hsz := hbr.size; clear hq) | (refine step_app ?_ (.tmp 201) (.tmp 218) _ ?_ (W0.heap.size) tyTask (.slice A i n) i ((tasksAt (bytesOf s) (p + 1) i).flatMap TTask.cells) ?_ ?_ (some ⟨w1.heap.size, 0, none⟩) 1 1 [.int .i64 (nth (bytesOf s) Q0), .int .i64 (twoB (bytesOf s) Q1), .int .i64 (twoB (bytesOf s) Q3), .int .i64 (twoB (bytesOf s) Q5)] ?_ ?_ (one_task [⟨nth (bytesOf s) Q0, twoB (bytesOf s) Q1, twoB (bytesOf s) Q3, twoB (bytesOf s) Q5⟩]) ?_ ?_ ?_ ?_; rfl; rfl; rfl; exact (by repeat (first | with_reducible exact hown'.out | (with_reducible refine World.ownsRow.alloc ?_ _) | (with_reducible refine own_drew ?_) | (with_reducible refine own_drewN ?_ _))); rfl; exact (by first | exact src_new (by simp) rfl | exact src_new_drew (by simp) rfl); (first | (unfold maxLen; omega) | (simp only [maxLen]; omega)); (omega); (first | exact Nat.le_refl _ | exact Below.size (by assumption) | omega | (simp <;> omega)); intro A3 c3 w3 hown3 hg_w3 hat_w3; refine have_then (P := w3.heap[gc]? = some (.cells #[h0, h1, h2, h3, h4, y5, y6, y7, .slice A i n] 63)) ?_ (fun x_w3 => ?_); (focus (refine (hg_w3.block _ ?_ ?_).trans ?_; (first | omega | (simp <;> omega)); (first | exact Ne.symm (by assumption) | omega); (repeat (first | with_reducible exact heap_set2 (by with_reducible assumption) | with_reducible exact heap_set2 (heapAt _ _ _ rfl) | with_reducible exact heap_set1 (by with_reducible assumption) | with_reducible exact heap_set1 (heapAt _ _ _ rfl) | with_reducible assumption | (with_reducible refine heapAt _ _ _ ?_; first | rfl | (first | omega | (simp <;> omega))) | (with_reducible refine heap_drew ?_) | (with_reducible refine heap_drewN ?_) | (with_reducible refine (heap_alloc_old _ _ ?_).trans ?_; (first | omega | (simp <;> omega))) | (with_reducible refine heap_set_far ?_ ?_; rotate_left; (first | omega | (simp <;> omega))))); done)); obtain ⟨cx_w3, fx_w3, zx_w3⟩ := blk x_w3))
      all_goals
        have z3 := hg_w3.size
        simp at z3
        have hne : (Value.slice A3 (i + 1) c3).ownBlock ≠ some gc := fun e => by have := (own_lt hown3 _ e).1; omega
        have q3 : Below gc W0 w3 := Below.grown (w := _) (by (repeat (first | with_reducible exact Below.refl _ _ | with_reducible assumption | (with_reducible refine Below.drew ?_) | (with_reducible refine Below.alloc ?_ ?_ _; rotate_left; (first | omega | (simp <;> omega))) | (with_reducible refine Below.setCell ?_ ?_ _; rotate_left; (first | omega | (simp <;> omega))) | (with_reducible refine below_drewN ?_ _) | (refine Below.trans ?_ (Below.mono (by with_reducible assumption) (by first | omega | (simp <;> omega))))))) hg_w3 (by simp; omega) (fun k hk => by have := (own_lt hown'.out _ hk).1; omega)
        refine NoPanic.normal ?_
        go_wp2_with fail
        go_roundw
        case rel =>
          refine ⟨i + 1, A3, c3, by omega, by go_num, ?_, ?_, Lib.hid ?_, Below.setCell q3 (by simp) _⟩
          · refine (heap_set_same x_w3).trans ?_
            simp
          · rw [HE.out]
            exact own_set_ne hown3 hne _
          · intro b' hb'
            have hb2 := hb'
            simp only [Exc] at hb2
            refine heap_set_far ((hg_w3.block b' (by simp; omega) (fun e => by have := (own_lt hown'.out _ e.symm).1; omega)).trans ?_) (by simp; omega)
            have t := hk.out b' hb'
            (repeat (first | with_reducible exact heap_set2 (by with_reducible assumption) | with_reducible exact heap_set2 (heapAt _ _ _ rfl) | with_reducible exact heap_set1 (by with_reducible assumption) | with_reducible exact heap_set1 (heapAt _ _ _ rfl) | with_reducible assumption | (with_reducible refine heapAt _ _ _ ?_; first | rfl | (first | omega | (simp <;> omega))) | (with_reducible refine heap_drew ?_) | (with_reducible refine heap_drewN ?_) | (with_reducible refine (heap_alloc_old _ _ ?_).trans ?_; (first | omega | (simp <;> omega))) | (with_reducible refine heap_set_far ?_ ?_; rotate_left; (first | omega | (simp <;> omega)))))
        case measure => simp [intOf]; omega
    · obtain rfl : i = N := by omega
      go_wp2_with (go_at_call 92; refine (HB.out p (by omega) _ (by first | exact hg1 | exact heap_drewN hg1 | exact heap_drew hg1)).mono ?_; rintro e w1 ⟨rfl, rfl⟩)
      exact hQ.out _ _ _ _ _ _ _ _ _ _ _ _ _ _ _ _ _ _ _ _ _ _ _ _ _ _ _ _ _ _ _ _ _ _ _ _ _ _ _ _ _ _ hc hown hk.out hbr
end Go.Proofs.Ytinlmkhlgclbfaa
