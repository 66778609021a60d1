/- RefCacheB NeqWay RefCacheC -/
import Derived.Test.YtinlmkhlgclbfabWcA03
import Derived.Test.YtinlmkhlgclbfabWcA08
import Derived.Test.YtinlmkhlgclbfabWcA09
import Derived.Test.YtinlmkhlgclbfabWcA13
import Derived.Test.YtinlmkhlgclbfabProg
import Derived.Laws.StructEq
section
namespace Go.Proofs.Ytinlmkhlgclbfab
open Go.RowKit
set_option maxRecDepth 100000
set_option maxHeartbeats 1000000

theorem anyI_succ (n : Nat) (p : Nat → Bool) : anyI (n + 1) p = (anyI n p || p n) := by
  unfold anyI; rw [List.range_succ, List.any_append]; simp

theorem refCheckCache (c : List (List TWay)) (A : Option Addr) (n B : Nat) (w : World) (hB : B ≤ w.heap.size) (hs : Sl cWay.slice (Low B) w A n c) :
    Calls Try.prog 27 #[.agg #[.slice A c.length n]] w fun e w' => e = .returned (.int .i64 (checkCache c)) ∧ Below w.heap.size w w' := by
  have hm : c.length ≤ maxLen := Nat.le_trans hs.cap hs.max
  unfold maxLen at hm
  by_cases h1 : inB 1 c.length 4 = true
  · have h0 : 0 < c.length := by have := inB_true.1 h1; omega
    have hc4 : c.length ≤ 4 := by have := inB_true.1 h1; omega
    have R1 := Lib.hid (show ∀ i, i < c.length → inB 1 (nth c i).length 3 = false → checkCache c = 3 by
      intro i hi h; simp only [checkCache]; rw [if_neg (by simp [h1]), if_pos (anyI_true.2 ⟨i, hi, by simp [h]⟩)])
    have R2 := Lib.hid (show (∀ j, j < c.length → inB 1 (nth c j).length 3 = true) → ∀ i, i < c.length → (nth c i).length ≠ (nth c 0).length → checkCache c = 1 by
      intro h i hi hne; simp only [checkCache]; rw [if_neg (by simp [h1]), if_neg (by rw [Bool.not_eq_true, anyI_false]; intro j hj; simp [h j hj]), if_pos (anyI_true.2 ⟨i, hi, by simpa using hne⟩)])
    have R3 := Lib.hid (show (∀ j, j < c.length → inB 1 (nth c j).length 3 = true) → (∀ j, j < c.length → (nth c j).length = (nth c 0).length) → checkCache c = firstE c.length (fun i => setErr c.length i (nth c i)) by
      intro h h'; simp only [checkCache]; rw [if_neg (by simp [h1]), if_neg (by rw [Bool.not_eq_true, anyI_false]; intro j hj; simp [h j hj]), if_neg (by rw [Bool.not_eq_true, anyI_false]; intro j hj; simp [h' j hj])])
    go_enter Try.func27, Try.ntmps27
    go_wp2_with (go_at_call 48; refine (refBetween _ _ _ _).mono ?_; rintro e w' ⟨rfl, rfl⟩)
    go_loopw [3] (fun iv wr => ∃ i : Nat, i ≤ c.length ∧ iv = .int .i64 i ∧ Hid (∀ j, j < i → inB 1 (nth c j).length 3 = true) ∧ wr.heap[w.heap.size]? = some (.cells #[.slice A c.length n] 63) ∧ Below w.heap.size w wr) (fun iv _ => c.length - (intOf iv).toNat)
    case atStart => exact ⟨0, Nat.zero_le _, rfl, (fun j hj => by omega), byH, byB⟩
    case round =>
      obtain ⟨i, hi, rfl, hq1, hp, hbr⟩ := hrel
      obtain ⟨cp, fp, zp⟩ := blk hp
      have so := hbr.size
      by_cases hlt : i < c.length
      · obtain ⟨b, o, A1, c1, rfl, hI, hcell, hin⟩ := (hs.next hB hbr).at_slice hlt
        have hi0 : (0 : Int) ≤ i := by omega
        have hi1 : (i : Int) < c.length := by omega
        cases hb : inB 1 (nth c i).length 3
        · have E := Lib.hid hb
          go_wp2_with (go_at_call 48; refine (refBetween _ _ _ _).mono ?_; rintro e w' ⟨rfl, rfl⟩)
          go_ret
          exact ⟨ret_int (R1.out i hlt E.out).symm, hbr⟩
        · have E := Lib.hid hb
          go_wp2_with (go_at_call 48; refine (refBetween _ _ _ _).mono ?_; rintro e w' ⟨rfl, rfl⟩)
          go_roundw
          case rel => exact ⟨i + 1, by omega, by go_num, (fun j hj => by
            by_cases e : j = i
            · subst e; exact E.out
            · exact hq1.out j (by omega)), byH, hbr⟩
          case measure => simp [intOf]; omega
      · obtain rfl : i = c.length := by omega
        obtain ⟨b, o, A1, c1, hA, hI, hcell, hin⟩ := (hs.next hB hbr).at_slice h0
        subst hA
        rw [Nat.add_zero] at hcell
        obtain ⟨wo, rfl⟩ : ∃ wo : World, wo = wr := ⟨_, rfl⟩
        have hm1 : (nth c 0).length ≤ 9223372036854775807 := by have := inB_true.1 (hq1.out 0 h0); omega
        have hbl0 : b < wo.heap.size := Nat.lt_of_lt_of_le hI (Nat.le_trans hB so)
        have hq0 : (0 : Int) < c.length := by omega
        go_wp2_with fail
        go_loopw [4] (fun iv wr => ∃ i : Nat, i ≤ c.length ∧ iv = .int .i64 i ∧ Hid (∀ j, j < i → (nth c j).length = (nth c 0).length) ∧ wr.heap[w.heap.size]? = some (.cells #[.slice (some ⟨b, o, none⟩) c.length n] 63) ∧ Below wo.heap.size wo wr) (fun iv _ => c.length - (intOf iv).toNat)
        case atStart => exact ⟨0, Nat.zero_le _, rfl, (fun j hj => by omega), byH, Below.refl _ _⟩
        case round =>
          obtain ⟨i, hi, rfl, hq2, hp, hbi⟩ := hrel
          obtain ⟨cp, fp, zp⟩ := blk hp
          have si := hbi.size
          have hbw : Below w.heap.size w wr := hbr.trans (hbi.mono so)
          have hcell0 : wr.cell? ⟨b, o, none⟩ = some (.slice A1 (nth c 0).length c1) := (hbi.cell (p := ⟨b, o, none⟩) hbl0).trans hcell
          by_cases hlt : i < c.length
          · obtain ⟨b', o', A2, c2, hA, hI', hcell', hin'⟩ := (hs.next hB hbw).at_slice hlt
            injection hA with hA; injection hA with e1 e2
            subst e1; subst e2
            have hm2 : (nth c i).length ≤ 9223372036854775807 := by have := inB_true.1 (hq1.out i hlt); omega
            have hi0 : (0 : Int) ≤ i := by omega
            have hi1 : (i : Int) < c.length := by omega
            by_cases hl : (nth c i).length = (nth c 0).length
            · have hb : (((nth c i).length : Int) != ((nth c 0).length : Int)) = false := by simp [hl]
              have E := Lib.hid hl
              clear hl
              go_wp2_with fail
              go_quiet (fail)
              go_wp2_with fail
              go_roundw
              case rel => exact ⟨i + 1, by omega, by go_num, (fun j hj => by
                by_cases e : j = i
                · subst e; exact E.out
                · exact hq2.out j (by omega)), byH, below_drewN hbi _⟩
              case measure => simp [intOf]; omega
            · have hb : (((nth c i).length : Int) != ((nth c 0).length : Int)) = true := by rw [bne_iff_ne]; omega
              have E := Lib.hid hl
              clear hl
              go_wp2_with fail
              go_quiet (fail)
              go_wp2_with fail
              go_ret
              exact ⟨ret_int (R2.out hq1.out i hlt E.out).symm, below_drewN hbw _⟩
          · obtain rfl : i = c.length := by omega
            obtain ⟨wp, rfl⟩ : ∃ wp : World, wp = wr := ⟨_, rfl⟩
            have R := Lib.hid (R3.out hq1.out hq2.out)
            have sp := hbw.size
            have hbl : b < wp.heap.size := by omega
            go_wp2_with fail
            go_loopw [5] (fun iv wr => ∃ i : Nat, i ≤ c.length ∧ iv = .int .i64 i ∧ Hid (∀ j, j < i → setErr c.length j (nth c j) = 0) ∧ wr.heap[w.heap.size]? = some (.cells #[.slice (some ⟨b, o, none⟩) c.length n] 63) ∧ Below wp.heap.size wp wr) (fun iv _ => c.length - (intOf iv).toNat)
            case atStart => exact ⟨0, Nat.zero_le _, rfl, (fun j hj => by omega), byH, Below.refl _ _⟩
            case round =>
              obtain ⟨i, hi, rfl, hq3, hp, hbj⟩ := hrel
              obtain ⟨cp, fp, zp⟩ := blk hp
              have sj := hbj.size
              have hbv : Below w.heap.size w wr := hbw.trans (hbj.mono sp)
              have sv := hbv.size
              obtain ⟨wv, rfl⟩ : ∃ wv : World, wv = wr := ⟨_, rfl⟩
              by_cases hlt : i < c.length
              · obtain ⟨b', o', A2, c2, hA, hI', hcell', hin'⟩ := (hs.next hB hbv).at_slice hlt
                injection hA with hA; injection hA with e1 e2
                subst e1; subst e2
                have hm2 : (nth c i).length ≤ 3 := by have := inB_true.1 (hq1.out i hlt); omega
                have hi0 : (0 : Int) ≤ i := by omega
                have hi1 : (i : Int) < c.length := by omega
                have hbl2 : b < wv.heap.size := by omega
                go_wp2_with fail
                go_loopw [6] (fun kv wr => ∃ k : Nat, k ≤ (nth c i).length ∧ kv = .int .i64 k ∧ Hid (∀ j, j < k → wayErr c.length i (nth c i) j = 0) ∧ wr.heap[w.heap.size]? = some (.cells #[.slice (some ⟨b, o, none⟩) c.length n] 63) ∧ Below wv.heap.size wv wr) (fun kv _ => (nth c i).length - (intOf kv).toNat)
                case atStart => exact ⟨0, Nat.zero_le _, rfl, (fun j hj => by omega), byH, Below.refl _ _⟩
                case round =>
                  obtain ⟨k, hk, rfl, hq4, hp, hbk⟩ := hrel
                  obtain ⟨cp, fp, zp⟩ := blk hp
                  have sk := hbk.size
                  have hbu : Below w.heap.size w wr := hbv.trans (hbk.mono sv)
                  have su := hbu.size
                  obtain ⟨wu, rfl⟩ : ∃ wu : World, wu = wr := ⟨_, rfl⟩
                  have hcellu : wu.cell? ⟨b, o + i, none⟩ = some (.slice A2 (nth c i).length c2) := (hbk.cell (p := ⟨b, o + i, none⟩) hbl2).trans hcell'
                  have hinu := hin'.next (Nat.le_trans hB sv) hbk
                  by_cases hkt : k < (nth c i).length
                  · obtain ⟨b2, o2, rfl, hI2, hc0, hc1⟩ := hinu.at_way hkt
                    have hbb2 : b2 < wu.heap.size := Nat.lt_of_lt_of_le hI2 (Nat.le_trans hB su)
                    have hbbu : b < wu.heap.size := by omega
                    have hk0 : (0 : Int) ≤ k := by omega
                    have hk1 : (k : Int) < (nth c i).length := by omega
                    have hset : wayErr c.length i (nth c i) k ≠ 0 → setErr c.length i (nth c i) = wayErr c.length i (nth c i) k := fun h => firstE_hit hkt hq4.out h
                    have hfin : wayErr c.length i (nth c i) k ≠ 0 → checkCache c = wayErr c.length i (nth c i) k := fun h => by rw [R.out, firstE_hit hlt hq3.out (by rw [hset h]; exact h), hset h]
                    have hnext : wayErr c.length i (nth c i) k = 0 → ∀ j, j < k + 1 → wayErr c.length i (nth c i) j = 0 := fun h j hj => by
                      by_cases e : j = k
                      · subst e; exact h
                      · exact hq4.out j (by omega)
                    have HF := Lib.hid hfin
                    have HN := Lib.hid hnext
                    have HW := Lib.hid (show wayErr c.length i (nth c i) k = _ from rfl)
                    clear hset hfin hnext
                    by_cases hr : inB 0 (nth (nth c i) k).line 1000 = true
                    · obtain ⟨l0, l1⟩ := inB_true.1 hr
                      by_cases hz : (nth (nth c i) k).line = 0
                      · have hzb : ((nth (nth c i) k).line == 0) = true := by simp [hz]
                        cases hd : (nth (nth c i) k).dirty
                        · rw [hd] at hc1
                          have E := Lib.hid (show wayErr c.length i (nth c i) k = 0 by simp only [wayErr]; rw [if_neg (by simp [hr]), if_pos hz, hd]; rfl)
                          clear hz hd
                          go_wp2_with (go_at_call 48; refine (refBetween _ _ _ _).mono ?_; rintro e w' ⟨rfl, rfl⟩)
                          go_roundw
                          case rel => exact ⟨k + 1, by omega, by go_num, HN.out E.out, byH, byB⟩
                          case measure => simp [intOf]; omega
                        · rw [hd] at hc1
                          have E := Lib.hid (show wayErr c.length i (nth c i) k = 1 by simp only [wayErr]; rw [if_neg (by simp [hr]), if_pos hz, hd]; rfl)
                          clear hz hd
                          go_wp2_with (go_at_call 48; refine (refBetween _ _ _ _).mono ?_; rintro e w' ⟨rfl, rfl⟩)
                          go_ret
                          exact ⟨ret_int (by rw [HF.out (by rw [E.out]; decide), E.out]), byB⟩
                      · have hzb : ((nth (nth c i) k).line == 0) = false := by simp [hz]
                        by_cases hmo : (nth (nth c i) k).line % (c.length : Int) = i
                        · have hmb : ((nth (nth c i) k).line % (c.length : Int) != (i : Int)) = false := by simp [hmo]
                          have E := Lib.hid (show wayErr c.length i (nth c i) k = if anyI k (fun j => (nth (nth c i) j).line == (nth (nth c i) k).line) then 6 else if anyI k (fun j => (nth (nth c i) j).line == 0) then 4 else 0 by simp only [wayErr]; rw [if_neg (by simp [hr]), if_neg hz, if_neg (by simpa using hmo)])
                          clear hz hmo
                          go_wp2_with (go_at_call 48; refine (refBetween _ _ _ _).mono ?_; rintro e w' ⟨rfl, rfl⟩)
                          go_loopw [8, 9, 10] (fun tv ev jv wr => ∃ m : Nat, m ≤ k ∧ jv = .int .i64 m ∧ tv = .bool (anyI m (fun j => (nth (nth c i) j).line == (nth (nth c i) k).line)) ∧ ev = .bool (anyI m (fun j => (nth (nth c i) j).line == 0)) ∧ wr.heap[w.heap.size]? = some (.cells #[.slice (some ⟨b, o, none⟩) c.length n] 63) ∧
                            wr.heap[wu.heap.size]? = some (.cells #[.int .i64 (nth (nth c i) k).line, .bool (nth (nth c i) k).dirty] 126) ∧ Below wu.heap.size wu wr) (fun _ _ jv _ => k - (intOf jv).toNat)
                          case atStart => exact ⟨0, Nat.zero_le _, rfl, rfl, rfl, byH, byH, byB⟩
                          case round =>
                            obtain ⟨m, hmk, rfl, rfl, rfl, hp, hwy, hbm⟩ := hrel
                            obtain ⟨cp, fp, zp⟩ := blk hp
                            obtain ⟨cw, fw, zw⟩ := blk hwy
                            have sm := hbm.size
                            by_cases hmt : m < k
                            · have hcellm : wr.cell? ⟨b, o + i, none⟩ = some (.slice (some ⟨b2, o2, none⟩) (nth c i).length c2) := (hbm.cell (p := ⟨b, o + i, none⟩) hbbu).trans hcellu
                              obtain ⟨b3, o3, hA3, hI3, hd0, hd1⟩ := (hinu.next (Nat.le_trans hB su) hbm).at_way (show m < (nth c i).length by omega)
                              injection hA3 with hA3; injection hA3 with e1 e2
                              subst e1; subst e2
                              have hm0 : (0 : Int) ≤ m := by omega
                              have hm1 : (m : Int) < (nth c i).length := by omega
                              have S1 := Lib.hid (anyI_succ m (fun j => (nth (nth c i) j).line == (nth (nth c i) k).line))
                              have S2 := Lib.hid (anyI_succ m (fun j => (nth (nth c i) j).line == 0))
                              generalize anyI m (fun j => (nth (nth c i) j).line == (nth (nth c i) k).line) = tw at *
                              generalize anyI m (fun j => (nth (nth c i) j).line == 0) = em at *
                              cases hx : ((nth (nth c i) m).line == (nth (nth c i) k).line) <;> cases hy : ((nth (nth c i) m).line == 0) <;> cases tw <;> cases em
                              all_goals
                                have HX := Lib.hid hx
                                have HY := Lib.hid hy
                                go_wp2_with fail
                                go_quiet (fail)
                                go_wp2_with fail
                                go_roundw
                                case rel => exact ⟨m + 1, by omega, by go_num, by rw [S1.out]; simp [HX.out], by rw [S2.out]; simp [HY.out], byH, byH, below_drewN hbm _⟩
                                case measure => simp [intOf]; omega
                            · obtain rfl : m = k := by omega
                              generalize anyI m (fun j => (nth (nth c i) j).line == (nth (nth c i) m).line) = tw at *
                              generalize anyI m (fun j => (nth (nth c i) j).line == 0) = em at *
                              cases tw <;> cases em
                              all_goals
                                have E2 := Lib.hid E.out
                                simp only [Bool.false_eq_true, if_false, if_true] at E2
                                go_wp2_with fail
                                first
                                  | (go_ret; exact ⟨ret_int (by rw [HF.out (by rw [E2.out]; decide), E2.out]), byB⟩)
                                  | (go_roundw; (case rel => exact ⟨m + 1, by omega, by go_num, HN.out E2.out, byH, hbk.trans (hbm.mono sk)⟩); (case measure => (simp [intOf]; omega)))
                        · have hmb : ((nth (nth c i) k).line % (c.length : Int) != (i : Int)) = true := by simp [hmo]
                          have E := Lib.hid (show wayErr c.length i (nth c i) k = 4 by simp only [wayErr]; rw [if_neg (by simp [hr]), if_neg hz, if_pos (by simpa using hmo)])
                          clear hz hmo
                          go_wp2_with (go_at_call 48; refine (refBetween _ _ _ _).mono ?_; rintro e w' ⟨rfl, rfl⟩)
                          go_ret
                          exact ⟨ret_int (by rw [HF.out (by rw [E.out]; decide), E.out]), byB⟩
                    · have hr : inB 0 (nth (nth c i) k).line 1000 = false := by simpa using hr
                      have E := Lib.hid (show wayErr c.length i (nth c i) k = 3 by simp only [wayErr]; rw [if_pos hr])
                      go_wp2_with (go_at_call 48; refine (refBetween _ _ _ _).mono ?_; rintro e w' ⟨rfl, rfl⟩)
                      go_ret
                      exact ⟨ret_int (by rw [HF.out (by rw [E.out]; decide), E.out]), byB⟩
                  · obtain rfl : k = (nth c i).length := by omega
                    go_wp2_with fail
                    go_roundw
                    case rel => exact ⟨i + 1, by omega, by go_num, (fun j hj => by
                      by_cases e : j = i
                      · subst e; exact firstE_none hq4.out
                      · exact hq3.out j (by omega)), byH, hbj.trans (hbk.mono sj)⟩
                    case measure => simp [intOf]; omega
              · obtain rfl : i = c.length := by omega
                go_wp2_with fail
                go_ret
                exact ⟨ret_int (by rw [R.out, firstE_none hq3.out]), hbv⟩
  · have h1 : inB 1 c.length 4 = false := by simpa using h1
    have R := Lib.hid (show checkCache c = 3 by simp only [checkCache]; rw [if_pos h1])
    clear hs
    go_enter Try.func27, Try.ntmps27
    go_wp2_with (go_at_call 48; refine (refBetween _ _ _ _).mono ?_; rintro e w' ⟨rfl, rfl⟩)
    go_ret
    exact ⟨ret_int R.out.symm, byB⟩
end Go.Proofs.Ytinlmkhlgclbfab
end

section
namespace Go.Proofs.Ytinlmkhlgclbfab
open Go.RowKit
set_option maxRecDepth 100000
set_option maxHeartbeats 400000

theorem neqWay (x y : TWay) (w : World) : (binOp .neq 126 (.agg #[.int .i64 x.line, .bool x.dirty]) (.agg #[.int .i64 y.line, .bool y.dirty])).run Try.prog w = .ok (.bool (diffT x y)) w := by
  have hf := congrArg (fun u : Option TypeDesc => match u with | some (.struct fs) => fs | _ => #[]) Try.underlying126
  change Try.prog.fieldsOf 126 = _ at hf
  simp only at hf
  rw [run_neq_struct, run_equalIn_agg _ _ _ _ _ (by rw [hf]; exact Try.underlying126) (by kernel_rfl), hf]
  have u1 := Try.underlying3
  have u2 := Try.underlying4
  have hd : diffT x y = !(x.line == y.line && x.dirty == y.dirty) := by
    unfold diffT
    congr 1
    rw [Bool.eq_iff_iff]
    cases x; cases y; simp [and_assoc]
  rw [hd]
  clear hd
  simp [Op.eqFields, go_sem, *]
  (repeat' split) <;> simp_all
theorem guardWay : Try.prog.eqGuardType Try.prog.depth 126 = false := by kernel_rfl
end Go.Proofs.Ytinlmkhlgclbfab
end

section
namespace Go.Proofs.Ytinlmkhlgclbfab
open Go.RowKit
set_option maxRecDepth 100000
set_option maxHeartbeats 1000000

theorem refSameCache (c d : List (List TWay)) (A A' : Option Addr) (n n' B : Nat) (w : World) (hB : B ≤ w.heap.size) (hs : Sl cWay.slice (Low B) w A n c) (ht : Sl cWay.slice (Low B) w A' n' d) (hl3 : ∀ i, i < c.length → (nth c i).length ≤ 1000000) :
    Calls Try.prog 69 #[.agg #[.slice A c.length n], .agg #[.slice A' d.length n']] w fun e w' => e = .returned (.bool (decide (c = d))) ∧ Below w.heap.size w w' := by
  have hm : c.length ≤ maxLen := Nat.le_trans hs.cap hs.max
  have hm' : d.length ≤ maxLen := Nat.le_trans ht.cap ht.max
  unfold maxLen at hm hm'
  by_cases hl : c.length = d.length
  · have hb : ((c.length : Int) != (d.length : Int)) = false := by simp [hl]
    have HL := Lib.hid hl
    clear hl
    go_enter Try.func69, Try.ntmps69
    go_wp2_with fail
    go_loopw [5] (fun iv wr => ∃ i : Nat, i ≤ c.length ∧ iv = .int .i64 i ∧ Hid (∀ j, j < i → nth c j = nth d j) ∧ wr.heap[w.heap.size]? = some (.cells #[.slice A c.length n] 63) ∧ wr.heap[w.heap.size + 1]? = some (.cells #[.slice A' d.length n'] 63) ∧ Below w.heap.size w wr) (fun iv _ => c.length - (intOf iv).toNat)
    case atStart => exact ⟨0, Nat.zero_le _, rfl, (fun j hj => by omega), byH, byH, byB⟩
    case round =>
      obtain ⟨i, hi, rfl, hq, hp, hr, hbr⟩ := hrel
      obtain ⟨cp, fp, zp⟩ := blk hp
      obtain ⟨cr, fr, zr⟩ := blk hr
      have so := hbr.size
      obtain ⟨wo, rfl⟩ : ∃ wo : World, wo = wr := ⟨_, rfl⟩
      by_cases hlt : i < c.length
      · have hlt' : i < d.length := by have := HL.out; omega
        obtain ⟨b, o, A1, c1, rfl, hI, hcell, hin⟩ := (hs.next hB hbr).at_slice hlt
        obtain ⟨b', o', A2, c2, rfl, hI', hcell', hin'⟩ := (ht.next hB hbr).at_slice hlt'
        have hw3 := hl3 i hlt
        have hmx : (nth d i).length ≤ maxLen := Nat.le_trans hin'.cap hin'.max
        unfold maxLen at hmx
        have hi0 : (0 : Int) ≤ i := by omega
        have hi1 : (i : Int) < c.length := by omega
        have hi2 : (i : Int) < d.length := by omega
        have hbl : b < wo.heap.size := Nat.lt_of_lt_of_le hI (Nat.le_trans hB so)
        have hbl' : b' < wo.heap.size := Nat.lt_of_lt_of_le hI' (Nat.le_trans hB so)
        by_cases hll : (nth c i).length = (nth d i).length
        · have hb2 : (((nth c i).length : Int) != ((nth d i).length : Int)) = false := by simp [hll]
          have HLL := Lib.hid hll
          clear hll
          go_wp2_with fail
          go_quiet (fail)
          go_wp2_with fail
          go_loopw [6] (fun kv wr => ∃ k : Nat, k ≤ (nth c i).length ∧ kv = .int .i64 k ∧ Hid (∀ j, j < k → nth (nth c i) j = nth (nth d i) j) ∧ wr.heap[w.heap.size]? = some (.cells #[.slice (some ⟨b, o, none⟩) c.length n] 63) ∧ wr.heap[w.heap.size + 1]? = some (.cells #[.slice (some ⟨b', o', none⟩) d.length n'] 63) ∧ Below wo.heap.size wo wr) (fun kv _ => (nth c i).length - (intOf kv).toNat)
          case atStart => exact ⟨0, Nat.zero_le _, rfl, (fun j hj => by omega), byH, byH, below_drewN (Below.refl _ _) _⟩
          case round =>
            obtain ⟨k, hk, rfl, hq2, hp, hr, hbk⟩ := hrel
            obtain ⟨cp, fp, zp⟩ := blk hp
            obtain ⟨cr, fr, zr⟩ := blk hr
            have sk := hbk.size
            have hbu : Below w.heap.size w wr := hbr.trans (hbk.mono so)
            have hcellu : wr.cell? ⟨b, o + i, none⟩ = some (.slice A1 (nth c i).length c1) := (hbk.cell (p := ⟨b, o + i, none⟩) hbl).trans hcell
            have hcellu' : wr.cell? ⟨b', o' + i, none⟩ = some (.slice A2 (nth d i).length c2) := (hbk.cell (p := ⟨b', o' + i, none⟩) hbl').trans hcell'
            by_cases hkt : k < (nth c i).length
            · have hkt' : k < (nth d i).length := by have := HLL.out; omega
              obtain ⟨b2, o2, rfl, hI2, hc0, hc1⟩ := (hin.next (Nat.le_trans hB so) hbk).at_way hkt
              obtain ⟨b3, o3, rfl, hI3, hd0, hd1⟩ := (hin'.next (Nat.le_trans hB so) hbk).at_way hkt'
              have hk0 : (0 : Int) ≤ k := by omega
              have hk1 : (k : Int) < (nth c i).length := by omega
              have hk2 : (k : Int) < (nth d i).length := by omega
              have hneq := fun w => neqWay (nth (nth c i) k) (nth (nth d i) k) w
              have hgd := guardWay
              cases hdf : diffT (nth (nth c i) k) (nth (nth d i) k)
              · have E := Lib.hid (diffT_false.1 hdf)
                go_wp2_with fail
                go_quiet (fail)
                go_wp2_with fail
                go_roundw
                case rel => exact ⟨k + 1, by omega, by go_num, (fun j hj => by
                  by_cases e : j = k
                  · subst e; exact E.out
                  · exact hq2.out j (by omega)), byH, byH, below_drewN hbk _⟩
                case measure => simp [intOf]; omega
              · have E := Lib.hid (diffT_true.1 hdf)
                go_wp2_with fail
                go_quiet (fail)
                go_wp2_with fail
                go_ret
                exact ⟨ret_bool (by rw [eq_comm, decide_eq_false_iff_not]; intro e; exact E.out (by rw [e])), below_drewN hbu _⟩
            · obtain rfl : k = (nth c i).length := by omega
              go_wp2_with fail
              go_roundw
              case rel => exact ⟨i + 1, by omega, by go_num, (fun j hj => by
                by_cases e : j = i
                · subst e
                  refine List.ext_getElem HLL.out fun q h1 h2 => ?_
                  rw [← nth_eq h1, ← nth_eq h2]
                  exact hq2.out q h1
                · exact hq.out j (by omega)), byH, byH, hbu⟩
              case measure => simp [intOf]; omega
        · have hb2 : (((nth c i).length : Int) != ((nth d i).length : Int)) = true := by rw [bne_iff_ne]; omega
          have E := Lib.hid hll
          clear hll
          go_wp2_with fail
          go_quiet (fail)
          go_wp2_with fail
          go_ret
          exact ⟨ret_bool (by rw [eq_comm, decide_eq_false_iff_not]; intro e; exact E.out (by rw [e])), below_drewN hbr _⟩
      · obtain rfl : i = c.length := by omega
        go_wp2_with fail
        go_ret
        exact ⟨ret_bool (by
          rw [eq_comm, decide_eq_true_iff]
          refine List.ext_getElem HL.out fun q h1 h2 => ?_
          rw [← nth_eq h1, ← nth_eq h2]
          exact hq.out q h1), hbr⟩
  · have hb : ((c.length : Int) != (d.length : Int)) = true := by rw [bne_iff_ne]; omega
    have HL := Lib.hid hl
    clear hl
    go_enter Try.func69, Try.ntmps69
    go_wp2_with fail
    go_ret
    exact ⟨ret_bool (by rw [eq_comm, decide_eq_false_iff_not]; intro e; exact HL.out (by rw [e])), byB⟩

def cacheIs (x : List (List TWay)) (e wn : Int) (y : List (List TWay)) : Bool := decide (e = wn) && decide (x = if wn = 0 then y else [])

theorem lawCacheIs (x y : List (List TWay)) (e wn : Int) (A A' : Option Addr) (n n' B : Nat) (w : World) (hB : B ≤ w.heap.size) (hs : Sl cWay.slice (Low B) w A n x) (ht : Sl cWay.slice (Low B) w A' n' y) (hl3 : ∀ i, i < x.length → (nth x i).length ≤ 1000000) :
    Calls Try.prog 31 #[.agg #[.slice A x.length n], .int .i64 e, .int .i64 wn, .agg #[.slice A' y.length n']] w fun en w' => en = .returned (.bool (cacheIs x e wn y)) ∧ Below w.heap.size w w' := by
  have H1 := Lib.hid (fun W (h : Below w.heap.size w W) => refSameCache x y A A' n n' B W (Nat.le_trans hB h.size) (hs.next hB h) (ht.next hB h) hl3)
  have H2 := Lib.hid (fun W (h : Below w.heap.size w W) => refSameCache x [] A none n 0 B W (Nat.le_trans hB h.size) (hs.next hB h) (Sl.empty _ _ _) hl3)
  clear hs ht
  by_cases h1 : e = wn
  · have b1 : (e == wn) = true := by simp [h1]
    by_cases h2 : wn = 0
    · have b2 : (wn != 0) = false := by simp [h2]
      have E := Lib.hid (show cacheIs x e wn y = decide (x = y) by simp [cacheIs, h1, h2])
      clear h1 h2
      go_enter Try.func31, Try.ntmps31
      go_wp2_with (go_at_call 69; refine (H1.out _ byB).mono ?_; rintro e w1 ⟨rfl, hb1⟩)
      go_ret
      rw [E.out]
      exact ⟨ret_bool (by simp), byB⟩
    · have b2 : (wn != 0) = true := by simp [h2]
      have E := Lib.hid (show cacheIs x e wn y = decide (x = []) by simp [cacheIs, h1, h2])
      clear h1 h2
      go_enter Try.func31, Try.ntmps31
      go_wp2_with (go_at_call 69; refine (H2.out _ byB).mono ?_; rintro e w1 ⟨rfl, hb1⟩)
      go_ret
      rw [E.out]
      exact ⟨ret_bool (by simp), byB⟩
  · have b1 : (e == wn) = false := by simp [h1]
    have E := Lib.hid (show cacheIs x e wn y = false by simp [cacheIs, h1])
    by_cases h2 : wn = 0
    · have b2 : (wn != 0) = false := by simp [h2]
      clear h1 h2
      go_enter Try.func31, Try.ntmps31
      go_wp2
      go_ret
      rw [E.out]
      exact ⟨ret_bool (by simp), byB⟩
    · have b2 : (wn != 0) = true := by simp [h2]
      clear h1 h2
      go_enter Try.func31, Try.ntmps31
      go_wp2
      go_ret
      rw [E.out]
      exact ⟨ret_bool (by simp), byB⟩
end Go.Proofs.Ytinlmkhlgclbfab
end
