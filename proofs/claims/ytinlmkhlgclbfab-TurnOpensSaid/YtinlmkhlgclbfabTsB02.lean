/- ArrR -/
import Derived.Test.YtinlmkhlgclbfabTsA12
import Derived.Test.YtinlmkhlgclbfabTsA03
namespace Go.Proofs.Ytinlmkhlgclbfab
open Go.RowKit
set_option maxRecDepth 100000
set_option maxHeartbeats 1000000

theorem refCheckArrivals (c : TCfg) (S : TCfgS) (l : List TArr) (A : Option Addr) (n : Nat) (B : Nat) (w : World) (hB : B ≤ w.heap.size) (hs : TCfg.At (Low B) w c S) (hl : Sl cArr (Low B) w A n l) :
    Calls Try.prog 18 #[.agg #[.int .i64 c.sets, .int .i64 c.ways, .int .i64 c.doms, .int .i64 c.pad, .int .i64 c.quantum, .slice S.a0 c.slots.length S.n0, .slice S.a1 c.owners.length S.n1, .slice S.a2 c.chans.length S.n2, .slice S.a3 c.tasks.length S.n3], .slice A l.length n] w fun e w' => e = .returned (.int .i64 (checkArrivals c l)) ∧ Below w.heap.size w w' := by
  obtain ⟨m0, m1, m2, m3⟩ := cfg_len hs
  have ml := Nat.le_trans hl.cap hl.max
  unfold maxLen at ml
  have hw : IntKind.i64.wrap ((c.owners.length : Int) - 1) = (c.owners.length : Int) - 1 := IntWalk.i64_in _ (by omega)
  clear hs
  by_cases hm : 40 < l.length
  · have R := Lib.hid (show checkArrivals c l = 2 by unfold checkArrivals; rw [if_pos hm])
    have hd : decide (40 < (l.length : Int)) = true := by simp; omega
    clear hm
    go_enter Try.func18, Try.ntmps18
    go_wp2
    go_ret
    exact ⟨ret_int R.out.symm, byB⟩
  have R0 := show checkArrivals c l = firstE l.length fun i => arrErr c.owners.length (nth l i) by unfold checkArrivals; rw [if_neg hm]
  have hd : decide (40 < (l.length : Int)) = false := by simp; omega
  have RH := Lib.hid (fun i hi (hq : ∀ j, j < i → arrErr c.owners.length (nth l j) = 0) (h : arrErr c.owners.length (nth l i) ≠ 0) => show checkArrivals c l = arrErr c.owners.length (nth l i) from R0.trans (firstE_hit hi hq h))
  have RN := Lib.hid (fun (hq : ∀ j, j < l.length → arrErr c.owners.length (nth l j) = 0) => show checkArrivals c l = 0 from R0.trans (firstE_none hq))
  clear R0 hm
  go_enter Try.func18, Try.ntmps18
  go_wp2
  go_loopw [5] (fun iv wr => ∃ i : Nat, i ≤ l.length ∧ iv = .int .i64 i ∧ Hid (∀ j, j < i → arrErr c.owners.length (nth l j) = 0) ∧ wr.heap[w.heap.size]? = some (.cells #[.int .i64 c.sets, .int .i64 c.ways, .int .i64 c.doms, .int .i64 c.pad, .int .i64 c.quantum, .slice S.a0 c.slots.length S.n0, .slice S.a1 c.owners.length S.n1, .slice S.a2 c.chans.length S.n2, .slice S.a3 c.tasks.length S.n3] 27) ∧ Below w.heap.size w wr) (fun iv _ => l.length - (intOf iv).toNat)
  case atStart => exact ⟨0, Nat.zero_le _, rfl, (fun j hj => by omega), byH, byB⟩
  case round =>
    obtain ⟨i, hi, rfl, hq, hp, hbr⟩ := hrel
    obtain ⟨cp, fp, zp⟩ := blk hp
    have so := hbr.size
    by_cases hlt : i < l.length
    · obtain ⟨b, o, rfl, hI, hc0, hc1⟩ := (hl.next hB hbr).at_arr hlt
      have hbl : b < w.heap.size := Nat.lt_of_lt_of_le hI hB
      have hbr' : b < wr.heap.size := by omega
      have hi0 : (0 : Int) ≤ i := by omega
      have hi1 : (i : Int) < l.length := by omega
      cases b1 : inB 0 (nth l i).t 100000
      · have R := Lib.hid ((RH.out i hlt hq.out (by simp [arrErr, b1])).trans (show arrErr c.owners.length (nth l i) = 3 by simp [arrErr, b1]))
        go_wp2_with (go_at_call 48; refine (refBetween _ _ _ _).mono ?_; rintro e w' ⟨rfl, rfl⟩)
        go_ret
        exact ⟨ret_int R.out.symm, byB⟩
      cases b2 : inB 0 (nth l i).line ((c.owners.length : Int) - 1)
      · have R := Lib.hid ((RH.out i hlt hq.out (by simp [arrErr, b1, b2])).trans (show arrErr c.owners.length (nth l i) = 5 by simp [arrErr, b1, b2]))
        go_wp2_with (go_at_call 48; refine (refBetween _ _ _ _).mono ?_; rintro e w' ⟨rfl, rfl⟩)
        go_region_held3 (fun w' => (∀ oo, w'.cell? ⟨w.heap.size, oo, none⟩ = #[.int .i64 c.sets, .int .i64 c.ways, .int .i64 c.doms, .int .i64 c.pad, .int .i64 c.quantum, .slice S.a0 c.slots.length S.n0, .slice S.a1 c.owners.length S.n1, .slice S.a2 c.chans.length S.n2, .slice S.a3 c.tasks.length S.n3][oo]?) ∧ w'.cell? ⟨b, o + i * 2 + 1, none⟩ = some (.int .i64 (nth l i).line)) (((try dsimp only); (repeat' apply And.intro) <;> (first | exact fun oo => (Below.cell (B := wr.heap.size) (w := wr) byB (by first | assumption | omega)).trans (cp oo) | exact (Below.cell (B := wr.heap.size) (w := wr) byB (by first | assumption | omega)).trans (by assumption) | go_keep | (simp [go_sem, *]; done))))
          (first | (go_at_call 48; refine (refBetween _ _ _ _).mono ?_; rintro e w' ⟨rfl, rfl⟩))
        all_goals
          go_wp2_with fail
          go_ret
          exact ⟨ret_int R.out.symm, byB⟩
      have R := Lib.hid (show arrErr c.owners.length (nth l i) = 0 by simp [arrErr, b1, b2])
      go_wp2_with (go_at_call 48; refine (refBetween _ _ _ _).mono ?_; rintro e w' ⟨rfl, rfl⟩)
      go_region_held3 (fun w' => (∀ oo, w'.cell? ⟨w.heap.size, oo, none⟩ = #[.int .i64 c.sets, .int .i64 c.ways, .int .i64 c.doms, .int .i64 c.pad, .int .i64 c.quantum, .slice S.a0 c.slots.length S.n0, .slice S.a1 c.owners.length S.n1, .slice S.a2 c.chans.length S.n2, .slice S.a3 c.tasks.length S.n3][oo]?) ∧ w'.cell? ⟨b, o + i * 2 + 1, none⟩ = some (.int .i64 (nth l i).line)) (((try dsimp only); (repeat' apply And.intro) <;> (first | exact fun oo => (Below.cell (B := wr.heap.size) (w := wr) byB (by first | assumption | omega)).trans (cp oo) | exact (Below.cell (B := wr.heap.size) (w := wr) byB (by first | assumption | omega)).trans (by assumption) | go_keep | (simp [go_sem, *]; done))))
        (first | (go_at_call 48; refine (refBetween _ _ _ _).mono ?_; rintro e w' ⟨rfl, rfl⟩))
      all_goals
        go_wp2_with fail
        go_roundw
        case rel => exact ⟨i + 1, by omega, by go_num, (fun j hj => by
          by_cases e : j = i
          · subst e; exact R.out
          · exact hq.out j (by omega)), byH, byB⟩
        case measure => simp [intOf]; omega
    · obtain rfl : i = l.length := by omega
      have R := Lib.hid (RN.out hq.out)
      go_wp2
      go_ret
      exact ⟨ret_int R.out.symm, hbr⟩

theorem refArrivedOf (c : TCfg) (S : TCfgS) (l : List TArr) (dom t0 t1 : Int) (h4 : c.owners.length ≤ 4) (h40 : l.length ≤ 40) (A : Option Addr) (n : Nat) (B : Nat) (w : World) (hB : B ≤ w.heap.size) (hs : TCfg.At (Low B) w c S) (hl : Sl cArr (Low B) w A n l) :
    Calls Try.prog 59 #[.agg #[.int .i64 c.sets, .int .i64 c.ways, .int .i64 c.doms, .int .i64 c.pad, .int .i64 c.quantum, .slice S.a0 c.slots.length S.n0, .slice S.a1 c.owners.length S.n1, .slice S.a2 c.chans.length S.n2, .slice S.a3 c.tasks.length S.n3], .slice A l.length n, .int .i64 dom, .int .i64 t0, .int .i64 t1] w (RetInts (cameOf c.owners dom t0 t1 l) w) := by
  have ml := Nat.le_trans hl.cap hl.max
  unfold maxLen at ml
  have HS := Lib.hid (fun i (hi : i < l.length) k => show cameN c.owners dom t0 t1 (l.take (i + 1)) k = cameN c.owners dom t0 t1 (l.take i) k + (if (nth l i).line = (k : Int) ∧ hitA c.owners dom t0 t1 (nth l i) = true then 1 else 0) by rw [tk_snoc hi]; exact cameN_snoc _ _ _ _ _ _ _)
  have HR := Lib.hid (fun i k => show cameN c.owners dom t0 t1 (l.take i) k ≤ 40 by
    have h1 := cameN_le c.owners dom t0 t1 (l.take i) k
    have h2 : (l.take i).length ≤ l.length := by rw [List.length_take]; omega
    omega)
  have HX := Lib.hid (fun k (hk : k < c.owners.length) => show (cameOf c.owners dom t0 t1 l).take (k + 1) = (cameOf c.owners dom t0 t1 l).take k ++ [(cameN c.owners dom t0 t1 l k : Int)] by
    rw [tk_snoc (by rw [cameOf_length]; exact hk), nth_cameOf hk])
  have HL := Lib.hid (cameOf_length c.owners dom t0 t1 l)
  generalize cameOf c.owners dom t0 t1 l = X at *
  (obtain ⟨a0, n0, a1, n1, a2, n2, a3, n3⟩ := S; obtain ⟨hs0, hs1, hs2, hs3⟩ := hs; dsimp only at hs0 hs1 hs2 hs3 ⊢)
  go_enter Try.func59, Try.ntmps59
  go_wp2_with fail
  go_loopw [11, 12] (fun rv kv wr => ∃ (k : Nat) (A1 : Option Addr) (c1 : Nat), k ≤ c.owners.length ∧ kv = .int .i64 k ∧ rv = .slice A1 k c1 ∧ wr.heap[w.heap.size]? = some (.cells #[.int .i64 c.sets, .int .i64 c.ways, .int .i64 c.doms, .int .i64 c.pad, .int .i64 c.quantum, .slice a0 c.slots.length n0, .slice a1 c.owners.length n1, .slice a2 c.chans.length n2, .slice a3 c.tasks.length n3] 27) ∧
    wr.ownsRow (w.heap.size + 1) 3 1 (.slice A1 k c1) k ((X.take k).flatMap fun n => [Value.int .i64 n]) ∧ Below w.heap.size w wr) (fun _ kv _ => c.owners.length - (intOf kv).toNat)
  case atStart => exact ⟨0, none, 0, Nat.zero_le _, rfl, rfl, byH, World.ownsRow_nil _ _ _ _, byB⟩
  case round =>
    obtain ⟨k, A1, c1, hk, rfl, rfl, hp, hown, hbr⟩ := hrel
    obtain ⟨cp, fp, zp⟩ := blk hp
    have so := hbr.size
    by_cases hlt : k < c.owners.length
    · obtain ⟨b2, o2, rfl, hI2, hcO⟩ := (hs1.next hB hbr).at_int hlt
      have hbl2 : b2 < w.heap.size := Nat.lt_of_lt_of_le hI2 hB
      have hbr2 : b2 < wr.heap.size := by omega
      have hk0 : (0 : Int) ≤ k := by omega
      have hk1 : (k : Int) < c.owners.length := by omega
      obtain ⟨wo, rfl⟩ : ∃ wo : World, wo = wr := ⟨_, rfl⟩
      go_wp2_with fail
      go_loopw [13, 14] (fun nv iv wx => ∃ i : Nat, i ≤ l.length ∧ iv = .int .i64 i ∧ nv = .int .i64 (cameN c.owners dom t0 t1 (l.take i) k : Nat) ∧ wo = wx) (fun _ iv _ => l.length - (intOf iv).toNat)
      case atStart => exact ⟨0, Nat.zero_le _, rfl, by rw [List.take_zero]; rfl, rfl⟩
      case round =>
        obtain ⟨i, hi, rfl, rfl, rfl⟩ := hrel
        by_cases hli : i < l.length
        · obtain ⟨b, o, rfl, hI, hc0, hc1⟩ := (hl.next hB hbr).at_arr hli
          have hbl : b < w.heap.size := Nat.lt_of_lt_of_le hI hB
          have hbr' : b < wo.heap.size := by omega
          have hi0 : (0 : Int) ≤ i := by omega
          have hi1 : (i : Int) < l.length := by omega
          have E := HS.out i hli k
          have hr := HR.out i k
          have hwr : IntKind.i64.wrap (((cameN c.owners dom t0 t1 (l.take i) k : Nat) : Int) + 1) = ((cameN c.owners dom t0 t1 (l.take i) k : Nat) : Int) + 1 := IntWalk.i64_in _ (by omega)
          cases f0 : ((nth l i).line == (k : Int))
          · have E := Lib.hid (show cameN c.owners dom t0 t1 (l.take (i + 1)) k = cameN c.owners dom t0 t1 (l.take i) k by rw [E, if_neg (by rintro ⟨e, _⟩; simp [e] at f0)]; rfl)
            go_wp2_with fail
            go_roundw
            case rel => exact ⟨i + 1, by omega, by go_num, by rw [E.out], trivial⟩
            case measure => simp [intOf]; omega
          have e0 : (nth l i).line = (k : Int) := by simpa using f0
          have hh : hitA c.owners dom t0 t1 (nth l i) = ((nth c.owners k == dom) && decide (t0 ≤ (nth l i).t) && decide ((nth l i).t < t1)) := by unfold hitA; rw [e0]; rfl
          rw [hh] at E
          have E := Lib.hid E
          have EK := Lib.hid e0
          clear hh e0
          cases f1 : (nth c.owners k == dom)
          · have E := Lib.hid (show cameN c.owners dom t0 t1 (l.take (i + 1)) k = cameN c.owners dom t0 t1 (l.take i) k by rw [E.out, if_neg (by rintro ⟨_, e⟩; rw [f1] at e; simp at e)]; rfl)
            go_wp2_with fail
            go_roundw
            case rel => exact ⟨i + 1, by omega, by go_num, by rw [E.out], trivial⟩
            case measure => simp [intOf]; omega
          cases f2 : decide (t0 ≤ (nth l i).t)
          · have E := Lib.hid (show cameN c.owners dom t0 t1 (l.take (i + 1)) k = cameN c.owners dom t0 t1 (l.take i) k by rw [E.out, if_neg (by rintro ⟨_, e⟩; rw [f1, f2] at e; simp at e)]; rfl)
            go_wp2_with fail
            go_roundw
            case rel => exact ⟨i + 1, by omega, by go_num, by rw [E.out], trivial⟩
            case measure => simp [intOf]; omega
          cases f3 : decide ((nth l i).t < t1)
          · have E := Lib.hid (show cameN c.owners dom t0 t1 (l.take (i + 1)) k = cameN c.owners dom t0 t1 (l.take i) k by rw [E.out, if_neg (by rintro ⟨_, e⟩; rw [f1, f2, f3] at e; simp at e)]; rfl)
            go_wp2_with fail
            go_roundw
            case rel => exact ⟨i + 1, by omega, by go_num, by rw [E.out], trivial⟩
            case measure => simp [intOf]; omega
          have E := Lib.hid (show cameN c.owners dom t0 t1 (l.take (i + 1)) k = cameN c.owners dom t0 t1 (l.take i) k + 1 by rw [E.out, if_pos ⟨EK.out, by rw [f1, f2, f3]; rfl⟩])
          go_wp2_with fail
          go_roundw
          case rel => exact ⟨i + 1, by omega, by go_num, by rw [E.out]; rfl, trivial⟩
          case measure => simp [intOf]; omega
        · obtain rfl : i = l.length := by omega
          have EX := Lib.hid (HX.out k hlt)
          rw [List.take_length]
          go_wp2_with ((at_builtin; refine wpList_app ?_ (.tmp 64) (.tmp 66) _ ?_ (w.heap.size + 1) tyInt (.slice A1 k c1) k ((X.take k).flatMap fun n => [Value.int .i64 n]) ?_ ?_ (some ⟨wo.heap.size, 0, none⟩) 1 1 [.int .i64 ((cameN c.owners dom t0 t1 l k : Nat) : Int)] ?_ ?_ (one_one rfl) ?_ ?_ ?_ ?_; rfl; rfl; rfl; exact (hown.alloc _); rfl; exact (src_new (by simp) rfl); (first | (unfold maxLen; omega) | (simp only [maxLen]; omega)); (omega); (first | exact Nat.le_refl _ | exact Below.size (by assumption) | omega | (simp <;> omega)); intro A3 c3 w3 hown3 hg_w3 hat_w3; refine have_then (P := w3.heap[w.heap.size]? = some (.cells #[.int .i64 c.sets, .int .i64 c.ways, .int .i64 c.doms, .int .i64 c.pad, .int .i64 c.quantum, .slice a0 c.slots.length n0, .slice (some ⟨b2, o2, none⟩) c.owners.length n1, .slice a2 c.chans.length n2, .slice a3 c.tasks.length n3] 27)) ?_ (fun p_w3 => ?_); (focus (refine (hg_w3.block _ ?_ ?_).trans ?_; (first | omega | (simp <;> omega)); (first | omega | exact Ne.symm (by assumption) | (intro e; have hlt := (World.ownsRow.lt hown _ e.symm).1; omega) | (simp [Value.ownBlock] <;> omega)); exact byH; done)); obtain ⟨cp_w3, fp_w3, zp_w3⟩ := blk p_w3; refine have_then (P := Below w.heap.size w w3) ?_ (fun h_w3 => ?_); (focus (refine Below.grown ?_ hg_w3 ?_ ?_; (focus (exact byB; done)); (first | exact Nat.le_refl _ | exact Below.size (by assumption) | omega | (simp <;> omega)); (intro kk hkk; first | (simp [Value.ownBlock] at hkk; omega) | (have hlt := (World.ownsRow.lt hown kk hkk).1; omega)); done)); have s_w3 := Below.size h_w3))
          go_roundw
          case rel =>
            refine ⟨k + 1, A3, c3, by omega, by go_num, rfl, p_w3, ?_, h_w3⟩
            rw [EX.out]
            simp only [List.flatMap_append, List.flatMap_cons, List.flatMap_nil, List.append_nil]
            exact hown3
          case measure => simp [intOf]; omega
    · obtain rfl : k = c.owners.length := by omega
      have e : X.take c.owners.length = X := by rw [← HL.out, List.take_length]
      rw [e] at hown
      have HS2 : Sl cInt (Rng (w.heap.size + 1) wr.heap.size) wr A1 c1 X := sl_of_own_rng (f := fun n => [Value.int .i64 n]) (hf := fun _ => rfl) HL.out.symm hown
      clear e hown
      go_wp2_with fail
      refine bodyPost_ret (v := .slice A1 c.owners.length c1) (by simp [results, Try.results59, go_sem, *]) rfl ?_
      exact ⟨A1, c1, by rw [HL.out], HS2.mono byM, hbr⟩
end Go.Proofs.Ytinlmkhlgclbfab
