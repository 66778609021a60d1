/- ArrA -/
import Derived.Test.YtinlmkhlgclbfabTsA09
import Derived.Test.YtinlmkhlgclbfabTsA10
import Derived.Test.YtinlmkhlgclbfabTsA11
namespace Go.Proofs.Ytinlmkhlgclbfab
open Go.RowKit
set_option maxRecDepth 100000
set_option maxHeartbeats 1000000

/-- the cells of a row of ints -/
def intCells (xs : List Int) : Array Value := (xs.map fun n => Value.int .i64 n).toArray
theorem intCells_made (n : Nat) : madeCells (Value.int .i64 0).cells (n * 1) = intCells (List.replicate n 0) := by
  apply Array.toList_inj.1
  have := madeCells_flat #[Value.int .i64 0] n (by simp)
  rw [show (#[Value.int .i64 0] : Array Value).size = 1 from rfl] at this
  rw [show (Value.int .i64 0).cells = #[Value.int .i64 0] from rfl, this]
  unfold intCells
  simp
theorem intCells_at {xs : List Int} {k : Nat} (h : k < xs.length) : (intCells xs)[k]? = some (.int .i64 (nth xs k)) := by
  rw [nth_eq h]; simp [intCells, h]
theorem intCells_set (xs : List Int) (k : Nat) (v : Int) : (intCells xs).setIfInBounds k (.int .i64 v) = intCells (xs.set k v) := by
  simp [intCells, List.map_set]
theorem sl_ints {I : Nat → Prop} {w : World} {g : Nat} {t : TypeId} {xs : List Int} (h : w.heap[g]? = some (.cells (intCells xs) t (0, 0))) (hI : I g) (hm : xs.length ≤ maxLen) : Sl cInt I w (some ⟨g, 0, none⟩) xs.length xs := by
  refine ⟨Nat.le_refl _, hm, fun e => (by cases e), fun i hi => ⟨g, 0, [.int .i64 xs[i]], rfl, hI, rfl, fun j u hu => ?_⟩⟩
  rw [(blk h).1]
  rcases j with _ | j
  · simp at hu; subst hu
    show (intCells xs)[0 + i * 1 + 0]? = _
    rw [Nat.zero_add, Nat.mul_one, Nat.add_zero, intCells_at hi, nth_eq hi]
  · simp at hu

theorem mailRight (c : TCfg) (S : TCfgS) (l : List TArr) (A : Option Addr) (n : Nat) (B : Nat) (w : World) (hB : B ≤ w.heap.size) (hs : TCfg.At (Low B) w c S) (hl : Sl cArr (Low B) w A n l) :
    Calls Try.prog 97 #[.agg #[.int .i64 c.sets, .int .i64 c.ways, .int .i64 c.doms, .int .i64 c.pad, .int .i64 c.quantum, .slice S.a0 c.slots.length S.n0, .slice S.a1 c.owners.length S.n1, .slice S.a2 c.chans.length S.n2, .slice S.a3 c.tasks.length S.n3], .slice A l.length n] w fun e w' => e = .returned (.int .i64 (checkArrivals c l)) ∧ Below w.heap.size w w' := by
  obtain ⟨m0, m1, m2, m3⟩ := cfg_len hs
  have ml := Nat.le_trans hl.cap hl.max
  unfold maxLen at ml
  have hw : IntKind.i64.wrap ((c.owners.length : Int) - 1) = (c.owners.length : Int) - 1 := IntWalk.i64_in _ (by omega)
  clear hs
  by_cases hm : 40 < l.length
  · have R := Lib.hid (show checkArrivals c l = 2 by unfold checkArrivals; rw [if_pos hm])
    have hd : decide (40 < (l.length : Int)) = true := by simp; omega
    clear hm
    go_enter Try.func97, Try.ntmps97
    go_wp2
    go_ret
    exact ⟨ret_int R.out.symm, byB⟩
  have R0 := show checkArrivals c l = firstE l.length fun i => arrErr c.owners.length (nth l i) by unfold checkArrivals; rw [if_neg hm]
  have hd : decide (40 < (l.length : Int)) = false := by simp; omega
  have RH := Lib.hid (fun i hi (hq : ∀ j, j < i → arrErr c.owners.length (nth l j) = 0) (h : arrErr c.owners.length (nth l i) ≠ 0) => show checkArrivals c l = arrErr c.owners.length (nth l i) from R0.trans (firstE_hit hi hq h))
  have RN := Lib.hid (fun (hq : ∀ j, j < l.length → arrErr c.owners.length (nth l j) = 0) => show checkArrivals c l = 0 from R0.trans (firstE_none hq))
  clear R0 hm
  go_enter Try.func97, Try.ntmps97
  go_wp2
  go_loopw [12] (fun iv wr => ∃ i : Nat, i ≤ l.length ∧ iv = .int .i64 i ∧ Hid (∀ j, j < i → arrErr c.owners.length (nth l j) = 0) ∧ wr.heap[w.heap.size]? = some (.cells #[.int .i64 c.sets, .int .i64 c.ways, .int .i64 c.doms, .int .i64 c.pad, .int .i64 c.quantum, .slice S.a0 c.slots.length S.n0, .slice S.a1 c.owners.length S.n1, .slice S.a2 c.chans.length S.n2, .slice S.a3 c.tasks.length S.n3] 27) ∧ Below w.heap.size w wr) (fun iv _ => l.length - (intOf iv).toNat)
  case atStart => exact ⟨0, Nat.zero_le _, rfl, (fun j hj => by omega), byH, byB⟩
  case round =>
    obtain ⟨i, hi, rfl, hq, hp, hbr⟩ := hrel
    obtain ⟨cp, fp, zp⟩ := blk hp
    have so := hbr.size
    by_cases hlt : i < l.length
    · obtain ⟨b, o, rfl, hI, hc0, hc1⟩ := (hl.next hB hbr).at_arr hlt
      have hbl : b < w.heap.size := Nat.lt_of_lt_of_le hI hB
      have hbr' : b < wr.heap.size := by omega
      have hi0 : (0 : Int) ≤ i := by omega
      have hi1 : (i : Int) < l.length := by omega
      cases b1 : inB 0 (nth l i).t 100000
      · have R := Lib.hid ((RH.out i hlt hq.out (by simp [arrErr, b1])).trans (show arrErr c.owners.length (nth l i) = 3 by simp [arrErr, b1]))
        go_wp2_with (go_at_call 98; refine (mailWithin _ _ _ _).mono ?_; rintro e w' ⟨rfl, rfl⟩)
        go_ret
        exact ⟨ret_int R.out.symm, byB⟩
      cases b2 : inB 0 (nth l i).line ((c.owners.length : Int) - 1)
      · have R := Lib.hid ((RH.out i hlt hq.out (by simp [arrErr, b1, b2])).trans (show arrErr c.owners.length (nth l i) = 5 by simp [arrErr, b1, b2]))
        go_wp2_with (go_at_call 98; refine (mailWithin _ _ _ _).mono ?_; rintro e w' ⟨rfl, rfl⟩)
        go_ret
        exact ⟨ret_int R.out.symm, byB⟩
      have R := Lib.hid (show arrErr c.owners.length (nth l i) = 0 by simp [arrErr, b1, b2])
      go_wp2_with (go_at_call 98; refine (mailWithin _ _ _ _).mono ?_; rintro e w' ⟨rfl, rfl⟩)
      go_roundw
      case rel => exact ⟨i + 1, by omega, by go_num, (fun j hj => by
        by_cases e : j = i
        · subst e; exact R.out
        · exact hq.out j (by omega)), byH, byB⟩
      case measure => simp [intOf]; omega
    · obtain rfl : i = l.length := by omega
      have R := Lib.hid (RN.out hq.out)
      go_wp2
      go_ret
      exact ⟨ret_int R.out.symm, hbr⟩

/-- a slice of ints of its own comes out -/
def RetInts (xs : List Int) (w : World) (en : Ending) (w' : World) : Prop := ∃ A n, en = .returned (.slice A xs.length n) ∧ Sl cInt (Rng w.heap.size w'.heap.size) w' A n xs ∧ Below w.heap.size w w'
def RetIntsE (xs : List Int) (e : Int) (w : World) (en : Ending) (w' : World) : Prop := ∃ A n, en = .returned (.tuple #[.slice A xs.length n, .int .i64 e]) ∧ Sl cInt (Rng w.heap.size w'.heap.size) w' A n xs ∧ Below w.heap.size w w'

theorem mailCame (c : TCfg) (S : TCfgS) (l : List TArr) (dom t0 t1 : Int) (h4 : c.owners.length ≤ 4) (h40 : l.length ≤ 40) (hln : ∀ i, i < l.length → 0 ≤ (nth l i).line ∧ (nth l i).line < c.owners.length) (A : Option Addr) (n : Nat) (B : Nat) (w : World) (hB : B ≤ w.heap.size) (hs : TCfg.At (Low B) w c S) (hl : Sl cArr (Low B) w A n l) :
    Calls Try.prog 99 #[.agg #[.int .i64 c.sets, .int .i64 c.ways, .int .i64 c.doms, .int .i64 c.pad, .int .i64 c.quantum, .slice S.a0 c.slots.length S.n0, .slice S.a1 c.owners.length S.n1, .slice S.a2 c.chans.length S.n2, .slice S.a3 c.tasks.length S.n3], .slice A l.length n, .int .i64 dom, .int .i64 t0, .int .i64 t1] w (RetInts (cameOf c.owners dom t0 t1 l) w) := by
  have hmk := make_run tyInt c.owners.length (by omega) (by omega)
  have HM := Lib.hid (fun i (hi : i < l.length) (k : Nat) (h : (nth l i).line = (k : Int)) (hlt : k < c.owners.length) (hh : hitA c.owners dom t0 t1 (nth l i) = true) => show cameOf c.owners dom t0 t1 (l.take (i + 1)) = (cameOf c.owners dom t0 t1 (l.take i)).set k (nth (cameOf c.owners dom t0 t1 (l.take i)) k + 1) by rw [tk_snoc hi]; exact cameOf_hit h hlt hh)
  have HX := Lib.hid (fun i (hi : i < l.length) (hh : hitA c.owners dom t0 t1 (nth l i) = false) => show cameOf c.owners dom t0 t1 (l.take (i + 1)) = cameOf c.owners dom t0 t1 (l.take i) by rw [tk_snoc hi]; exact cameOf_miss hh)
  have HL := Lib.hid (fun i => cameOf_length c.owners dom t0 t1 (l.take i))
  have HR := Lib.hid (fun i k (hk : k < c.owners.length) => show 0 ≤ nth (cameOf c.owners dom t0 t1 (l.take i)) k ∧ nth (cameOf c.owners dom t0 t1 (l.take i)) k ≤ 40 by
    rw [nth_cameOf hk]
    have h1 := cameN_le c.owners dom t0 t1 (l.take i) k
    have h2 : (l.take i).length ≤ l.length := by rw [List.length_take]; omega
    omega)
  have H0 := Lib.hid (show cameOf c.owners dom t0 t1 (l.take 0) = List.replicate c.owners.length 0 by rw [List.take_zero]; exact cameOf_nil _ _ _ _)
  have HLN := Lib.hid hln
  clear hln
  rw [intCells_made] at hmk
  (obtain ⟨a0, n0, a1, n1, a2, n2, a3, n3⟩ := S; obtain ⟨hs0, hs1, hs2, hs3⟩ := hs; dsimp only at hs0 hs1 hs2 hs3 ⊢)
  go_enter Try.func99, Try.ntmps99
  go_wp2_with fail
  go_loopw [20] (fun iv wr => ∃ i : Nat, i ≤ l.length ∧ iv = .int .i64 i ∧ wr.heap[w.heap.size]? = some (.cells #[.int .i64 c.sets, .int .i64 c.ways, .int .i64 c.doms, .int .i64 c.pad, .int .i64 c.quantum, .slice a0 c.slots.length n0, .slice a1 c.owners.length n1, .slice a2 c.chans.length n2, .slice a3 c.tasks.length n3] 27) ∧ wr.heap[w.heap.size + 1]? = some (.cells (intCells (cameOf c.owners dom t0 t1 (l.take i))) 3) ∧ Below w.heap.size w wr) (fun iv _ => l.length - (intOf iv).toNat)
  case atStart => exact ⟨0, Nat.zero_le _, rfl, byH, by rw [H0.out]; exact byH, byB⟩
  case round =>
    obtain ⟨i, hi, rfl, hp, hg, hbr⟩ := hrel
    obtain ⟨cp, fp, zp⟩ := blk hp
    obtain ⟨cg, fg, zg⟩ := blk hg
    have so := hbr.size
    by_cases hlt : i < l.length
    · obtain ⟨b, o, rfl, hI, hc0, hc1⟩ := (hl.next hB hbr).at_arr hlt
      obtain ⟨h0, h1⟩ := HLN.out i hlt
      obtain ⟨m, hm⟩ := Int.eq_ofNat_of_zero_le h0
      rw [hm] at hc1 h1
      have hmlt : m < c.owners.length := by omega
      obtain ⟨b2, o2, rfl, hI2, hcO⟩ := (hs1.next hB hbr).at_int hmlt
      have hbl : b < w.heap.size := Nat.lt_of_lt_of_le hI hB
      have hbr' : b < wr.heap.size := by omega
      have hbl2 : b2 < w.heap.size := Nat.lt_of_lt_of_le hI2 hB
      have hbr2 : b2 < wr.heap.size := by omega
      have hi0 : (0 : Int) ≤ i := by omega
      have hi1 : (i : Int) < l.length := by omega
      have hm0 : (0 : Int) ≤ m := by omega
      have HMM := Lib.hid hm
      have hh : hitA c.owners dom t0 t1 (nth l i) = ((nth c.owners m == dom) && decide (t0 ≤ (nth l i).t) && decide ((nth l i).t < t1)) := by unfold hitA; rw [hm]; rfl
      clear hm h0
      have hXl := HL.out i
      have hXr := HR.out i m hmlt
      have hcg := (cg m).trans (intCells_at (by rw [hXl]; exact hmlt))
      have hMM := Lib.hid (HM.out i hlt m HMM.out hmlt)
      have hXX := Lib.hid (HX.out i hlt)
      rw [hh] at hMM hXX
      clear hh
      generalize cameOf c.owners dom t0 t1 (l.take i) = X at *
      have hwr : IntKind.i64.wrap (nth X m + 1) = nth X m + 1 := IntWalk.i64_in _ (by omega)
      have hXL := Lib.hid hXl
      clear hXl cg
      cases f1 : (nth c.owners m == dom)
      · have E := Lib.hid (hXX.out (by rw [f1]; rfl))
        go_wp2_with fail
        go_roundw
        case rel => exact ⟨i + 1, by omega, by go_num, byH, by rw [E.out]; exact byH, byB⟩
        case measure => simp [intOf]; omega
      cases f2 : decide (t0 ≤ (nth l i).t)
      · have E := Lib.hid (hXX.out (by rw [f1, f2]; rfl))
        go_wp2_with fail
        go_roundw
        case rel => exact ⟨i + 1, by omega, by go_num, byH, by rw [E.out]; exact byH, byB⟩
        case measure => simp [intOf]; omega
      cases f3 : decide ((nth l i).t < t1)
      · have E := Lib.hid (hXX.out (by rw [f1, f2, f3]; rfl))
        go_wp2_with fail
        go_roundw
        case rel => exact ⟨i + 1, by omega, by go_num, byH, by rw [E.out]; exact byH, byB⟩
        case measure => simp [intOf]; omega
      have E := Lib.hid (hMM.out (by rw [f1, f2, f3]; rfl))
      go_wp2_with fail
      go_roundw
      case rel =>
        refine ⟨i + 1, by omega, by go_num, byH, ?_, byB⟩
        rw [E.out, ← intCells_set]
        refine (heap_alloc_old _ _ ?_).trans (heap_set_same ?_)
        · (first | omega | (simp <;> omega))
        · exact byH
      case measure => simp [intOf]; omega
    · obtain rfl : i = l.length := by omega
      have hXl := Lib.hid (HL.out l.length)
      have hXl2 := Lib.hid (cameOf_length c.owners dom t0 t1 l)
      rw [List.take_length] at hg hXl
      go_wp2_with fail
      refine bodyPost_ret (v := .slice (some ⟨w.heap.size + 1, 0, none⟩) c.owners.length c.owners.length) (by simp [results, Try.results99, go_sem, *]) rfl ?_
      refine ⟨_, _, ?_, (sl_ints hg (I := Rng w.heap.size wr.heap.size) (by simp only [Rng]; omega) (by rw [hXl2.out]; unfold maxLen; omega)), byB⟩
      rw [hXl2.out]

/-- C2: what Arrived must answer -/
def arrivedErr (c : TCfg) (l : List TArr) (dom t0 t1 : Int) : Int := thenE (checkConfig c) (if !isDom c.doms dom then 5 else thenE (checkArrivals c l) (if !inB 0 t0 100000 || !inB 0 t1 100000 then 3 else 0))
def arrivedOf (c : TCfg) (l : List TArr) (dom t0 t1 : Int) : List Int := if arrivedErr c l dom t0 t1 = 0 then cameOf c.owners dom t0 t1 l else []

theorem mailArrived (c : TCfg) (S : TCfgS) (l : List TArr) (dom t0 t1 : Int) (A : Option Addr) (n : Nat) (B : Nat) (w : World) (hB : B ≤ w.heap.size) (hs : TCfg.At (Low B) w c S) (hl : Sl cArr (Low B) w A n l) :
    Calls Try.prog 52 #[.agg #[.int .i64 c.sets, .int .i64 c.ways, .int .i64 c.doms, .int .i64 c.pad, .int .i64 c.quantum, .slice S.a0 c.slots.length S.n0, .slice S.a1 c.owners.length S.n1, .slice S.a2 c.chans.length S.n2, .slice S.a3 c.tasks.length S.n3], .slice A l.length n, .int .i64 dom, .int .i64 t0, .int .i64 t1] w (RetIntsE (arrivedOf c l dom t0 t1) (arrivedErr c l dom t0 t1) w) := by
  have H1 := Lib.hid (fun W (h : Below w.heap.size w W) => configCheck c S B W (Nat.le_trans hB h.size) (hs.next hB h))
  cases e1 : decide (checkConfig c = 0)
  · have e1 : checkConfig c ≠ 0 := by simpa using e1
    have R1 := show arrivedErr c l dom t0 t1 = checkConfig c by unfold arrivedErr thenE; rw [if_neg e1]
    have R2 := show arrivedOf c l dom t0 t1 = [] by unfold arrivedOf; rw [R1, if_neg e1]
    rw [R1, R2]
    have b1 : (checkConfig c != 0) = true := by simp [e1]
    clear hs hl e1 R1 R2
    generalize checkConfig c = CE at *
    go_enter Try.func52, Try.ntmps52
    go_wp2_with (go_at_call 45; refine (H1.out _ byB).mono ?_; rintro e w1 ⟨rfl, hb1⟩)
    refine bodyPost_ret (v := .tuple #[.slice none 0 0, .int .i64 CE]) (by simp [results, Try.results52, go_sem, *]) rfl ?_
    exact ⟨none, 0, rfl, Sl.empty _ _ _, byB⟩
  have e1 : checkConfig c = 0 := by simpa using e1
  have ok := checkConfig_ok e1
  have h1 := ok.doms.1
  have h4 := ok.doms.2
  have R0 := show arrivedErr c l dom t0 t1 = if !isDom c.doms dom then 5 else thenE (checkArrivals c l) (if !inB 0 t0 100000 || !inB 0 t1 100000 then 3 else 0) by unfold arrivedErr; rw [e1]; rfl
  have H2 := Lib.hid (fun W => configIsDomain c S dom h1 h4 W)
  rw [e1] at H1
  cases e2 : isDom c.doms dom
  · have R1 := show arrivedErr c l dom t0 t1 = 5 by rw [R0, e2]; rfl
    have R2 := show arrivedOf c l dom t0 t1 = [] by unfold arrivedOf; rw [R1]; rfl
    rw [R1, R2]
    rw [e2] at H2
    clear hs hl e1 R1 R2 R0 ok e2
    go_enter Try.func52, Try.ntmps52
    go_wp2_with fail
    (go_at_call 45; refine (H1.out _ byB).mono ?_; rintro e w1 ⟨rfl, hb_w1⟩; refine have_then (P := w1.heap[w.heap.size]? = some (.cells #[.int .i64 c.sets, .int .i64 c.ways, .int .i64 c.doms, .int .i64 c.pad, .int .i64 c.quantum, .slice S.a0 c.slots.length S.n0, .slice S.a1 c.owners.length S.n1, .slice S.a2 c.chans.length S.n2, .slice S.a3 c.tasks.length S.n3] 27)) ((hb_w1.block _ byS).trans byH) (fun a_w1 => ?_); obtain ⟨ca_w1, fa_w1, za_w1⟩ := blk a_w1; refine have_then (P := Below w.heap.size w w1) byB (fun h_w1 => ?_); have s_w1 := Below.size h_w1; have t_w1 := Below.size hb_w1; (try simp at t_w1); revert hb_w1; intro hb_w1)
    go_wp2_with fail
    (go_at_call 91; refine (H2.out _).mono ?_; rintro e w2 ⟨rfl, hb_w2⟩; refine have_then (P := w2.heap[w.heap.size]? = some (.cells #[.int .i64 c.sets, .int .i64 c.ways, .int .i64 c.doms, .int .i64 c.pad, .int .i64 c.quantum, .slice S.a0 c.slots.length S.n0, .slice S.a1 c.owners.length S.n1, .slice S.a2 c.chans.length S.n2, .slice S.a3 c.tasks.length S.n3] 27)) ((hb_w2.block _ byS).trans byH) (fun a_w2 => ?_); obtain ⟨ca_w2, fa_w2, za_w2⟩ := blk a_w2; refine have_then (P := Below w.heap.size w w2) byB (fun h_w2 => ?_); have s_w2 := Below.size h_w2; have t_w2 := Below.size hb_w2; (try simp at t_w2); revert hb_w2; intro hb_w2; clear a_w1 ca_w1 fa_w1)
    go_wp2_with fail
    refine bodyPost_ret (v := .tuple #[.slice none 0 0, .int .i64 5]) (by simp [results, Try.results52, go_sem, *]) rfl ?_
    exact ⟨none, 0, rfl, Sl.empty _ _ _, byB⟩
  have R0 := show arrivedErr c l dom t0 t1 = thenE (checkArrivals c l) (if !inB 0 t0 100000 || !inB 0 t1 100000 then 3 else 0) by rw [R0, e2]; rfl
  rw [e2] at H2
  have H3 := Lib.hid (fun W (h : Below w.heap.size w W) => mailRight c S l A n B W (Nat.le_trans hB h.size) (hs.next hB h) (hl.next hB h))
  cases e3 : decide (checkArrivals c l = 0)
  · have e3 : checkArrivals c l ≠ 0 := by simpa using e3
    have R1 := show arrivedErr c l dom t0 t1 = checkArrivals c l by rw [R0]; unfold thenE; rw [if_neg e3]
    have R2 := show arrivedOf c l dom t0 t1 = [] by unfold arrivedOf; rw [R1, if_neg e3]
    rw [R1, R2]
    have b3 : (checkArrivals c l != 0) = true := by simp [e3]
    clear hs hl e1 R1 R2 R0 ok e2 e3
    generalize checkArrivals c l = CE at *
    go_enter Try.func52, Try.ntmps52
    go_wp2_with fail
    (go_at_call 45; refine (H1.out _ byB).mono ?_; rintro e w1 ⟨rfl, hb_w1⟩; refine have_then (P := w1.heap[w.heap.size]? = some (.cells #[.int .i64 c.sets, .int .i64 c.ways, .int .i64 c.doms, .int .i64 c.pad, .int .i64 c.quantum, .slice S.a0 c.slots.length S.n0, .slice S.a1 c.owners.length S.n1, .slice S.a2 c.chans.length S.n2, .slice S.a3 c.tasks.length S.n3] 27)) ((hb_w1.block _ byS).trans byH) (fun a_w1 => ?_); obtain ⟨ca_w1, fa_w1, za_w1⟩ := blk a_w1; refine have_then (P := Below w.heap.size w w1) byB (fun h_w1 => ?_); have s_w1 := Below.size h_w1; have t_w1 := Below.size hb_w1; (try simp at t_w1); revert hb_w1; intro hb_w1)
    go_wp2_with fail
    (go_at_call 91; refine (H2.out _).mono ?_; rintro e w2 ⟨rfl, hb_w2⟩; refine have_then (P := w2.heap[w.heap.size]? = some (.cells #[.int .i64 c.sets, .int .i64 c.ways, .int .i64 c.doms, .int .i64 c.pad, .int .i64 c.quantum, .slice S.a0 c.slots.length S.n0, .slice S.a1 c.owners.length S.n1, .slice S.a2 c.chans.length S.n2, .slice S.a3 c.tasks.length S.n3] 27)) ((hb_w2.block _ byS).trans byH) (fun a_w2 => ?_); obtain ⟨ca_w2, fa_w2, za_w2⟩ := blk a_w2; refine have_then (P := Below w.heap.size w w2) byB (fun h_w2 => ?_); have s_w2 := Below.size h_w2; have t_w2 := Below.size hb_w2; (try simp at t_w2); revert hb_w2; intro hb_w2; clear a_w1 ca_w1 fa_w1)
    go_wp2_with fail
    (go_at_call 97; refine (H3.out _ byB).mono ?_; rintro e w3 ⟨rfl, hb_w3⟩; refine have_then (P := w3.heap[w.heap.size]? = some (.cells #[.int .i64 c.sets, .int .i64 c.ways, .int .i64 c.doms, .int .i64 c.pad, .int .i64 c.quantum, .slice S.a0 c.slots.length S.n0, .slice S.a1 c.owners.length S.n1, .slice S.a2 c.chans.length S.n2, .slice S.a3 c.tasks.length S.n3] 27)) ((hb_w3.block _ byS).trans byH) (fun a_w3 => ?_); obtain ⟨ca_w3, fa_w3, za_w3⟩ := blk a_w3; refine have_then (P := Below w.heap.size w w3) byB (fun h_w3 => ?_); have s_w3 := Below.size h_w3; have t_w3 := Below.size hb_w3; (try simp at t_w3); revert hb_w3; intro hb_w3; clear a_w2 ca_w2 fa_w2)
    go_wp2_with fail
    refine bodyPost_ret (v := .tuple #[.slice none 0 0, .int .i64 CE]) (by simp [results, Try.results52, go_sem, *]) rfl ?_
    exact ⟨none, 0, rfl, Sl.empty _ _ _, byB⟩
  have e3 : checkArrivals c l = 0 := by simpa using e3
  have R0 := show arrivedErr c l dom t0 t1 = if !inB 0 t0 100000 || !inB 0 t1 100000 then 3 else 0 by rw [R0, e3]; rfl
  rw [e3] at H3
  obtain ⟨h40, hln⟩ := checkArrivals_ok e3
  have H4 := Lib.hid (fun W (h : Below w.heap.size w W) => mailCame c S l dom t0 t1 ok.nowners h40 (fun i hi => (hln i hi).2.2) A n B W (Nat.le_trans hB h.size) (hs.next hB h) (hl.next hB h))
  clear hln
  have R1 := Lib.hid R0
  have R2 := Lib.hid (show arrivedErr c l dom t0 t1 ≠ 0 → arrivedOf c l dom t0 t1 = [] from fun h => by unfold arrivedOf; rw [if_neg h])
  have R3 := Lib.hid (show arrivedErr c l dom t0 t1 = 0 → arrivedOf c l dom t0 t1 = cameOf c.owners dom t0 t1 l from fun h => by unfold arrivedOf; rw [if_pos h])
  clear hs hl e1 e2 e3 ok R0
  cases f1 : inB 0 t0 100000
  · have E := R1.out
    rw [f1] at E
    have E : arrivedErr c l dom t0 t1 = 3 := E
    rw [R2.out (by rw [E]; decide), E]
    clear E
    go_enter Try.func52, Try.ntmps52
    go_wp2_with fail
    (go_at_call 45; refine (H1.out _ byB).mono ?_; rintro e w1 ⟨rfl, hb_w1⟩; refine have_then (P := w1.heap[w.heap.size]? = some (.cells #[.int .i64 c.sets, .int .i64 c.ways, .int .i64 c.doms, .int .i64 c.pad, .int .i64 c.quantum, .slice S.a0 c.slots.length S.n0, .slice S.a1 c.owners.length S.n1, .slice S.a2 c.chans.length S.n2, .slice S.a3 c.tasks.length S.n3] 27)) ((hb_w1.block _ byS).trans byH) (fun a_w1 => ?_); obtain ⟨ca_w1, fa_w1, za_w1⟩ := blk a_w1; refine have_then (P := Below w.heap.size w w1) byB (fun h_w1 => ?_); have s_w1 := Below.size h_w1; have t_w1 := Below.size hb_w1; (try simp at t_w1); revert hb_w1; intro hb_w1)
    go_wp2_with fail
    (go_at_call 91; refine (H2.out _).mono ?_; rintro e w2 ⟨rfl, hb_w2⟩; refine have_then (P := w2.heap[w.heap.size]? = some (.cells #[.int .i64 c.sets, .int .i64 c.ways, .int .i64 c.doms, .int .i64 c.pad, .int .i64 c.quantum, .slice S.a0 c.slots.length S.n0, .slice S.a1 c.owners.length S.n1, .slice S.a2 c.chans.length S.n2, .slice S.a3 c.tasks.length S.n3] 27)) ((hb_w2.block _ byS).trans byH) (fun a_w2 => ?_); obtain ⟨ca_w2, fa_w2, za_w2⟩ := blk a_w2; refine have_then (P := Below w.heap.size w w2) byB (fun h_w2 => ?_); have s_w2 := Below.size h_w2; have t_w2 := Below.size hb_w2; (try simp at t_w2); revert hb_w2; intro hb_w2; clear a_w1 ca_w1 fa_w1)
    go_wp2_with fail
    (go_at_call 97; refine (H3.out _ byB).mono ?_; rintro e w3 ⟨rfl, hb_w3⟩; refine have_then (P := w3.heap[w.heap.size]? = some (.cells #[.int .i64 c.sets, .int .i64 c.ways, .int .i64 c.doms, .int .i64 c.pad, .int .i64 c.quantum, .slice S.a0 c.slots.length S.n0, .slice S.a1 c.owners.length S.n1, .slice S.a2 c.chans.length S.n2, .slice S.a3 c.tasks.length S.n3] 27)) ((hb_w3.block _ byS).trans byH) (fun a_w3 => ?_); obtain ⟨ca_w3, fa_w3, za_w3⟩ := blk a_w3; refine have_then (P := Below w.heap.size w w3) byB (fun h_w3 => ?_); have s_w3 := Below.size h_w3; have t_w3 := Below.size hb_w3; (try simp at t_w3); revert hb_w3; intro hb_w3; clear a_w2 ca_w2 fa_w2)
    go_wp2_with (go_at_call 98; refine (mailWithin _ _ _ _).mono ?_; rintro e w' ⟨rfl, rfl⟩)
    refine bodyPost_ret (v := .tuple #[.slice none 0 0, .int .i64 3]) (by simp [results, Try.results52, go_sem, *]) rfl ?_
    exact ⟨none, 0, rfl, Sl.empty _ _ _, byB⟩
  cases f2 : inB 0 t1 100000
  · have E := R1.out
    rw [f1, f2] at E
    have E : arrivedErr c l dom t0 t1 = 3 := E
    rw [R2.out (by rw [E]; decide), E]
    clear E
    go_enter Try.func52, Try.ntmps52
    go_wp2_with fail
    (go_at_call 45; refine (H1.out _ byB).mono ?_; rintro e w1 ⟨rfl, hb_w1⟩; refine have_then (P := w1.heap[w.heap.size]? = some (.cells #[.int .i64 c.sets, .int .i64 c.ways, .int .i64 c.doms, .int .i64 c.pad, .int .i64 c.quantum, .slice S.a0 c.slots.length S.n0, .slice S.a1 c.owners.length S.n1, .slice S.a2 c.chans.length S.n2, .slice S.a3 c.tasks.length S.n3] 27)) ((hb_w1.block _ byS).trans byH) (fun a_w1 => ?_); obtain ⟨ca_w1, fa_w1, za_w1⟩ := blk a_w1; refine have_then (P := Below w.heap.size w w1) byB (fun h_w1 => ?_); have s_w1 := Below.size h_w1; have t_w1 := Below.size hb_w1; (try simp at t_w1); revert hb_w1; intro hb_w1)
    go_wp2_with fail
    (go_at_call 91; refine (H2.out _).mono ?_; rintro e w2 ⟨rfl, hb_w2⟩; refine have_then (P := w2.heap[w.heap.size]? = some (.cells #[.int .i64 c.sets, .int .i64 c.ways, .int .i64 c.doms, .int .i64 c.pad, .int .i64 c.quantum, .slice S.a0 c.slots.length S.n0, .slice S.a1 c.owners.length S.n1, .slice S.a2 c.chans.length S.n2, .slice S.a3 c.tasks.length S.n3] 27)) ((hb_w2.block _ byS).trans byH) (fun a_w2 => ?_); obtain ⟨ca_w2, fa_w2, za_w2⟩ := blk a_w2; refine have_then (P := Below w.heap.size w w2) byB (fun h_w2 => ?_); have s_w2 := Below.size h_w2; have t_w2 := Below.size hb_w2; (try simp at t_w2); revert hb_w2; intro hb_w2; clear a_w1 ca_w1 fa_w1)
    go_wp2_with fail
    (go_at_call 97; refine (H3.out _ byB).mono ?_; rintro e w3 ⟨rfl, hb_w3⟩; refine have_then (P := w3.heap[w.heap.size]? = some (.cells #[.int .i64 c.sets, .int .i64 c.ways, .int .i64 c.doms, .int .i64 c.pad, .int .i64 c.quantum, .slice S.a0 c.slots.length S.n0, .slice S.a1 c.owners.length S.n1, .slice S.a2 c.chans.length S.n2, .slice S.a3 c.tasks.length S.n3] 27)) ((hb_w3.block _ byS).trans byH) (fun a_w3 => ?_); obtain ⟨ca_w3, fa_w3, za_w3⟩ := blk a_w3; refine have_then (P := Below w.heap.size w w3) byB (fun h_w3 => ?_); have s_w3 := Below.size h_w3; have t_w3 := Below.size hb_w3; (try simp at t_w3); revert hb_w3; intro hb_w3; clear a_w2 ca_w2 fa_w2)
    go_wp2_with (go_at_call 98; refine (mailWithin _ _ _ _).mono ?_; rintro e w' ⟨rfl, rfl⟩)
    refine bodyPost_ret (v := .tuple #[.slice none 0 0, .int .i64 3]) (by simp [results, Try.results52, go_sem, *]) rfl ?_
    exact ⟨none, 0, rfl, Sl.empty _ _ _, byB⟩
  have E := R1.out
  rw [f1, f2] at E
  have E : arrivedErr c l dom t0 t1 = 0 := E
  rw [R3.out E, E]
  clear E
  go_enter Try.func52, Try.ntmps52
  go_wp2_with fail
  (go_at_call 45; refine (H1.out _ byB).mono ?_; rintro e w1 ⟨rfl, hb_w1⟩; refine have_then (P := w1.heap[w.heap.size]? = some (.cells #[.int .i64 c.sets, .int .i64 c.ways, .int .i64 c.doms, .int .i64 c.pad, .int .i64 c.quantum, .slice S.a0 c.slots.length S.n0, .slice S.a1 c.owners.length S.n1, .slice S.a2 c.chans.length S.n2, .slice S.a3 c.tasks.length S.n3] 27)) ((hb_w1.block _ byS).trans byH) (fun a_w1 => ?_); obtain ⟨ca_w1, fa_w1, za_w1⟩ := blk a_w1; refine have_then (P := Below w.heap.size w w1) byB (fun h_w1 => ?_); have s_w1 := Below.size h_w1; have t_w1 := Below.size hb_w1; (try simp at t_w1); revert hb_w1; intro hb_w1)
  go_wp2_with fail
  (go_at_call 91; refine (H2.out _).mono ?_; rintro e w2 ⟨rfl, hb_w2⟩; refine have_then (P := w2.heap[w.heap.size]? = some (.cells #[.int .i64 c.sets, .int .i64 c.ways, .int .i64 c.doms, .int .i64 c.pad, .int .i64 c.quantum, .slice S.a0 c.slots.length S.n0, .slice S.a1 c.owners.length S.n1, .slice S.a2 c.chans.length S.n2, .slice S.a3 c.tasks.length S.n3] 27)) ((hb_w2.block _ byS).trans byH) (fun a_w2 => ?_); obtain ⟨ca_w2, fa_w2, za_w2⟩ := blk a_w2; refine have_then (P := Below w.heap.size w w2) byB (fun h_w2 => ?_); have s_w2 := Below.size h_w2; have t_w2 := Below.size hb_w2; (try simp at t_w2); revert hb_w2; intro hb_w2; clear a_w1 ca_w1 fa_w1)
  go_wp2_with fail
  (go_at_call 97; refine (H3.out _ byB).mono ?_; rintro e w3 ⟨rfl, hb_w3⟩; refine have_then (P := w3.heap[w.heap.size]? = some (.cells #[.int .i64 c.sets, .int .i64 c.ways, .int .i64 c.doms, .int .i64 c.pad, .int .i64 c.quantum, .slice S.a0 c.slots.length S.n0, .slice S.a1 c.owners.length S.n1, .slice S.a2 c.chans.length S.n2, .slice S.a3 c.tasks.length S.n3] 27)) ((hb_w3.block _ byS).trans byH) (fun a_w3 => ?_); obtain ⟨ca_w3, fa_w3, za_w3⟩ := blk a_w3; refine have_then (P := Below w.heap.size w w3) byB (fun h_w3 => ?_); have s_w3 := Below.size h_w3; have t_w3 := Below.size hb_w3; (try simp at t_w3); revert hb_w3; intro hb_w3; clear a_w2 ca_w2 fa_w2)
  go_wp2_with (go_at_call 98; refine (mailWithin _ _ _ _).mono ?_; rintro e w' ⟨rfl, rfl⟩)
  (go_at_call 99; refine (H4.out _ byB).mono ?_; rintro e w4 ⟨A4, c4, rfl, hs4, hb_w4⟩; refine have_then (P := w4.heap[w.heap.size]? = some (.cells #[.int .i64 c.sets, .int .i64 c.ways, .int .i64 c.doms, .int .i64 c.pad, .int .i64 c.quantum, .slice S.a0 c.slots.length S.n0, .slice S.a1 c.owners.length S.n1, .slice S.a2 c.chans.length S.n2, .slice S.a3 c.tasks.length S.n3] 27)) ((hb_w4.block _ byS).trans byH) (fun a_w4 => ?_); obtain ⟨ca_w4, fa_w4, za_w4⟩ := blk a_w4; refine have_then (P := Below w.heap.size w w4) byB (fun h_w4 => ?_); have s_w4 := Below.size h_w4; have t_w4 := Below.size hb_w4; (try simp at t_w4); revert hb_w4; intro hb_w4; clear a_w3 ca_w3 fa_w3)
  go_wp2_with fail
  refine bodyPost_ret (v := .tuple #[.slice A4 (cameOf c.owners dom t0 t1 l).length c4, .int .i64 0]) (by simp [results, Try.results52, go_sem, *]) rfl ?_
  exact ⟨A4, c4, rfl, hs4.mono byM, byB⟩
end Go.Proofs.Ytinlmkhlgclbfab
