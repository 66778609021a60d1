/- TurnP TurnA -/
import Derived.Test.YtinlmkhlgclbfabTsA05
import Derived.Test.YtinlmkhlgclbfabTsA09
import Derived.Test.YtinlmkhlgclbfabTsA12
section
namespace Go.Proofs.Ytinlmkhlgclbfab
open Go.RowKit

/-- F2: arrivals on line i are taken in -/
def openStep (ns : List Int) (i : Nat) (d : TDom) : TDom := { d with taken := d.taken.set i (min 15 (nth d.taken i + nth ns i)) }
def openTaken (ns : List Int) (d : TDom) : TDom := upTo (openStep ns) ns.length 0 d
def slotDom (c : TCfg) (s : Int) : Int := (nth c.slots s.toNat).dom
def openOf (c : TCfg) (l : List TArr) (s : Int) (d : TDom) (t0 t1 : Int) : TDom :=
  let d1 := openTaken (cameOf c.owners (slotDom c s) t0 t1 l) d
  { d1 with events := d1.events ++ [⟨t1, 1, s, 0⟩] }
theorem openStep_events (ns : List Int) (es : List TEv) : ∀ (n i : Nat) (d : TDom), upTo (openStep ns) n i { d with events := es } = { upTo (openStep ns) n i d with events := es } := by
  intro n
  induction n with
  | zero => intro i d; rfl
  | succ n ih =>
    intro i d
    rw [show upTo (openStep ns) (n + 1) i { d with events := es } = upTo (openStep ns) n (i + 1) { openStep ns i d with events := es } from rfl, ih]
    rfl
theorem openTaken_eq (ns : List Int) (d : TDom) : ∀ n i, ∃ tk, tk.length = d.taken.length ∧ upTo (openStep ns) n i d = { d with taken := tk } := by
  intro n
  induction n generalizing d with
  | zero => intro i; exact ⟨d.taken, rfl, rfl⟩
  | succ n ih =>
    intro i
    obtain ⟨tk, h1, h2⟩ := ih (openStep ns i d) (i + 1)
    exact ⟨tk, by rw [h1]; simp [openStep], h2⟩
/-- line j is not yet turned behind i rounds -/
theorem openTaken_at (ns : List Int) (d : TDom) : ∀ i j, i ≤ j → nth (upTo (openStep ns) i 0 d).taken j = nth d.taken j := by
  intro i
  induction i with
  | zero => intro j _; rfl
  | succ i ih =>
    intro j hj
    rw [upTo_last, Nat.zero_add]
    show nth ((upTo (openStep ns) i 0 d).taken.set i _) j = _
    rw [nth_set_ne (by omega)]
    exact ih j (by omega)
/-- the reference tells first -/
theorem openOf_told (c : TCfg) (l : List TArr) (s : Int) (d : TDom) (t0 t1 : Int) : openTaken (cameOf c.owners (slotDom c s) t0 t1 l) { d with events := d.events ++ [⟨t1, 1, s, 0⟩] } = openOf c l s d t0 t1 := by
  unfold openOf openTaken
  rw [openStep_events]
  obtain ⟨tk, -, e⟩ := openTaken_eq (cameOf c.owners (slotDom c s) t0 t1 l) d (cameOf c.owners (slotDom c s) t0 t1 l).length 0
  simp only [e]
/-- F2: Open's verdict -/
def openErr (c : TCfg) (l : List TArr) (s : Int) (d : TDom) (t0 t1 : Int) : Int :=
  if checkConfig c ≠ 0 then checkConfig c
  else if ¬ (0 ≤ s ∧ s < c.slots.length) then 5
  else thenE (domErr c (slotDom c s) d) (arrivedErr c l (slotDom c s) t0 t1)
end Go.Proofs.Ytinlmkhlgclbfab
end

section
namespace Go.Proofs.Ytinlmkhlgclbfab
open Go.RowKit
set_option maxRecDepth 100000
set_option maxHeartbeats 8000000

/-- C1: the lengths of the slots ahead of slot k -/
def aheadOf (c : TCfg) : Nat → Int
  | 0 => 0
  | k + 1 => aheadOf c k + (nth c.slots k).len
def roundOf (c : TCfg) : Int := aheadOf c c.slots.length
def startOf (c : TCfg) (r s : Int) : Int := r * roundOf c + aheadOf c s.toNat
theorem aheadOf_rng {c : TCfg} (ok : CfgOk c) : ∀ k, k ≤ c.slots.length → 0 ≤ aheadOf c k ∧ aheadOf c k ≤ 1000 * k := by
  intro k
  induction k with
  | zero => intro _; exact ⟨Int.le_refl _, by simp [aheadOf]⟩
  | succ k ih =>
    intro hk
    have h1 := ih (by omega)
    have h2 := ok.slot k (by omega)
    unfold aheadOf
    omega
theorem roundOf_rng {c : TCfg} (ok : CfgOk c) : 0 ≤ roundOf c ∧ roundOf c ≤ 6000 := by
  have h := aheadOf_rng ok c.slots.length (Nat.le_refl _)
  have := ok.nslots
  unfold roundOf
  omega
theorem startOf_rng {c : TCfg} (ok : CfgOk c) {r s : Int} (hr : 0 ≤ r ∧ r ≤ 8) (hs : 0 ≤ s ∧ s ≤ c.slots.length) : (0 ≤ r * roundOf c ∧ r * roundOf c ≤ 48000) ∧ (0 ≤ aheadOf c s.toNat ∧ aheadOf c s.toNat ≤ 6000) := by
  have h1 := roundOf_rng ok
  have h2 := aheadOf_rng ok s.toNat (by omega)
  have := ok.nslots
  have h3 : r * roundOf c ≤ 8 * 6000 := Int.mul_le_mul hr.2 h1.2 h1.1 (by omega)
  have h4 : 0 ≤ r * roundOf c := Int.mul_nonneg hr.1 h1.1
  omega

theorem refRoundOf (c : TCfg) (S : TCfgS) (ok : CfgOk c) (B : Nat) (w : World) (hB : B ≤ w.heap.size) (hs : TCfg.At (Low B) w c S) :
    Calls Try.prog 13 #[.agg #[.int .i64 c.sets, .int .i64 c.ways, .int .i64 c.doms, .int .i64 c.pad, .int .i64 c.quantum, .slice S.a0 c.slots.length S.n0, .slice S.a1 c.owners.length S.n1, .slice S.a2 c.chans.length S.n2, .slice S.a3 c.tasks.length S.n3]] w fun e w' => e = .returned (.int .i64 (roundOf c)) ∧ Below w.heap.size w w' := by
  have n6 := ok.nslots
  have HA := Lib.hid (fun k (h : k < c.slots.length) => (⟨aheadOf_rng ok k (by omega), aheadOf_rng ok (k + 1) (by omega)⟩ : _ ∧ _))
  have HR := Lib.hid (show roundOf c = aheadOf c c.slots.length from rfl)
  clear ok
  go_enter Try.func13, Try.ntmps13
  go_wp2_with fail
  go_loopw [3, 4] (fun sv iv wr => ∃ i : Nat, i ≤ c.slots.length ∧ sv = .int .i64 (aheadOf c i) ∧ iv = .int .i64 i ∧ Hid (wr.heap[w.heap.size]? = some (.cells #[.int .i64 c.sets, .int .i64 c.ways, .int .i64 c.doms, .int .i64 c.pad, .int .i64 c.quantum, .slice S.a0 c.slots.length S.n0, .slice S.a1 c.owners.length S.n1, .slice S.a2 c.chans.length S.n2, .slice S.a3 c.tasks.length S.n3] 27) ∧ Below w.heap.size w wr)) (fun _ iv _ => c.slots.length - (intOf iv).toNat)
  case atStart => exact ⟨0, Nat.zero_le _, rfl, rfl, Lib.hid ⟨by exact byH, byB⟩⟩
  case round =>
    obtain ⟨i, hi, rfl, rfl, hH⟩ := hrel
    obtain ⟨hbx, hbr⟩ := hH.out
    by_cases hlt : i < c.slots.length
    · obtain ⟨b1, o1, e1, hI1, k0, k1⟩ := (hs.next hB hbr).s0.at_slot hlt
      have hbx0 := hbx
      replace hbx0 := Lib.hid hbx0
      rw [e1] at hbx
      clear e1
      obtain ⟨cx, fx, zx⟩ := blk hbx
      have i0 : (0 : Int) ≤ i := by omega
      have i1 : (i : Int) < c.slots.length := by omega
      have hA := HA.out i hlt
      have hw : IntKind.i64.wrap (aheadOf c i + (nth c.slots i).len) = aheadOf c (i + 1) := IntWalk.i64_in (aheadOf c (i + 1)) (by omega)
      go_wp2_with fail
      go_roundw
      case rel => exact ⟨i + 1, by omega, by first | rfl | go_num, by go_num, Lib.hid ⟨hbx0.out, byB⟩⟩
      case measure => simp [intOf]; omega
    · obtain rfl : i = c.slots.length := by omega
      obtain ⟨cx, fx, zx⟩ := blk hbx
      go_wp2_with fail
      go_ret
      exact ⟨ret_int HR.out.symm, hbr⟩

theorem refStartOf (c : TCfg) (S : TCfgS) (r s : Int) (ok : CfgOk c) (hr : 0 ≤ r ∧ r ≤ 8) (h : 0 ≤ s ∧ s < c.slots.length) (B : Nat) (w : World) (hB : B ≤ w.heap.size) (hs : TCfg.At (Low B) w c S) :
    Calls Try.prog 14 #[.agg #[.int .i64 c.sets, .int .i64 c.ways, .int .i64 c.doms, .int .i64 c.pad, .int .i64 c.quantum, .slice S.a0 c.slots.length S.n0, .slice S.a1 c.owners.length S.n1, .slice S.a2 c.chans.length S.n2, .slice S.a3 c.tasks.length S.n3], .int .i64 r, .int .i64 s] w fun e w' => e = .returned (.int .i64 (startOf c r s)) ∧ Below w.heap.size w w' := by
  obtain ⟨n, rfl⟩ := Int.eq_ofNat_of_zero_le h.1
  have hn : n < c.slots.length := by omega
  have H1 := Lib.hid (fun W (h : Below w.heap.size w W) => refRoundOf c S ok B W (Nat.le_trans hB h.size) (hs.next hB h))
  have n6 := ok.nslots
  have hm := (startOf_rng ok hr (s := 0) (by omega)).1
  have HA := Lib.hid (fun k (h : k < c.slots.length) => (⟨aheadOf_rng ok k (by omega), aheadOf_rng ok (k + 1) (by omega)⟩ : _ ∧ _))
  have HR := Lib.hid (show startOf c r n = r * roundOf c + aheadOf c ((n : Int)).toNat from rfl)
  rw [Int.toNat_natCast] at HR
  have hwm : IntKind.i64.wrap (r * roundOf c) = r * roundOf c := IntWalk.i64_in _ (by omega)
  clear ok h
  generalize hM : r * roundOf c = M at *
  go_enter Try.func14, Try.ntmps14
  go_wp2_with fail
  (go_at_call 13; refine (H1.out _ byB).mono ?_; rintro e w1 ⟨rfl, hb_w1⟩; refine have_then (P := w1.heap[w.heap.size]? = some (.cells #[.int .i64 c.sets, .int .i64 c.ways, .int .i64 c.doms, .int .i64 c.pad, .int .i64 c.quantum, .slice S.a0 c.slots.length S.n0, .slice S.a1 c.owners.length S.n1, .slice S.a2 c.chans.length S.n2, .slice S.a3 c.tasks.length S.n3] 27)) ((hb_w1.block _ byS).trans byH) (fun c_w1 => ?_); obtain ⟨cc_w1, fc_w1, zc_w1⟩ := blk c_w1; refine have_then (P := Below w.heap.size w w1) byB (fun h_w1 => ?_); have s_w1 := Below.size h_w1; have t_w1 := Below.size hb_w1; (try simp at t_w1); revert hb_w1; intro hb_w1)
  try simp only [hM, hwm]
  go_wp2_with fail
  go_loopw [7, 8] (fun sv iv wr => ∃ i : Nat, i ≤ n ∧ sv = .int .i64 (M + aheadOf c i) ∧ iv = .int .i64 i ∧ Hid (wr.heap[w.heap.size]? = some (.cells #[.int .i64 c.sets, .int .i64 c.ways, .int .i64 c.doms, .int .i64 c.pad, .int .i64 c.quantum, .slice S.a0 c.slots.length S.n0, .slice S.a1 c.owners.length S.n1, .slice S.a2 c.chans.length S.n2, .slice S.a3 c.tasks.length S.n3] 27) ∧ Below w.heap.size w wr)) (fun _ iv _ => n - (intOf iv).toNat)
  case atStart => exact ⟨0, Nat.zero_le _, by simp [aheadOf], rfl, Lib.hid ⟨by exact byH, byB⟩⟩
  case round =>
    obtain ⟨i, hi, rfl, rfl, hH⟩ := hrel
    obtain ⟨hbx, hbr⟩ := hH.out
    by_cases hlt : i < n
    · obtain ⟨b1, o1, e1, hI1, k0, k1⟩ := (hs.next hB hbr).s0.at_slot (show i < c.slots.length by omega)
      have hbx0 := hbx
      replace hbx0 := Lib.hid hbx0
      rw [e1] at hbx
      clear e1
      obtain ⟨cx, fx, zx⟩ := blk hbx
      have i0 : (0 : Int) ≤ i := by omega
      have i1 : (i : Int) < c.slots.length := by omega
      have i2 : (i : Int) < n := by omega
      have hA := HA.out i (by omega)
      have hw : IntKind.i64.wrap (M + aheadOf c i + (nth c.slots i).len) = M + aheadOf c (i + 1) := by
        rw [IntWalk.i64_in _ (by unfold aheadOf at hA; omega)]; show _ = M + (aheadOf c i + _); omega
      go_wp2_with fail
      go_roundw
      case rel => exact ⟨i + 1, by omega, by first | rfl | go_num, by go_num, Lib.hid ⟨hbx0.out, byB⟩⟩
      case measure => simp [intOf]; omega
    · obtain rfl : i = n := by omega
      obtain ⟨cx, fx, zx⟩ := blk hbx
      go_wp2_with fail
      go_ret
      exact ⟨ret_int HR.out.symm, hbr⟩

theorem turnIsSlot (c : TCfg) (S : TCfgS) (s : Int) (w : World) :
    Calls Try.prog 47 #[.agg #[.int .i64 c.sets, .int .i64 c.ways, .int .i64 c.doms, .int .i64 c.pad, .int .i64 c.quantum, .slice S.a0 c.slots.length S.n0, .slice S.a1 c.owners.length S.n1, .slice S.a2 c.chans.length S.n2, .slice S.a3 c.tasks.length S.n3], .int .i64 s] w fun e w' => e = .returned (.bool (decide (0 ≤ s) && decide (s < c.slots.length))) ∧ Below w.heap.size w w' := by
  cases b1 : decide (0 ≤ s)
  · go_enter Try.func47, Try.ntmps47
    go_wp2_with fail
    go_ret
    exact ⟨ret_bool (by simp), byB⟩
  · go_enter Try.func47, Try.ntmps47
    go_wp2_with fail
    go_ret
    exact ⟨ret_bool (by simp), byB⟩

theorem turnBegins (c : TCfg) (S : TCfgS) (r s : Int) (ok : CfgOk c) (hr : 0 ≤ r ∧ r ≤ 8) (h : 0 ≤ s ∧ s < c.slots.length) (B : Nat) (w : World) (hB : B ≤ w.heap.size) (hs : TCfg.At (Low B) w c S) :
    Calls Try.prog 46 #[.agg #[.int .i64 c.sets, .int .i64 c.ways, .int .i64 c.doms, .int .i64 c.pad, .int .i64 c.quantum, .slice S.a0 c.slots.length S.n0, .slice S.a1 c.owners.length S.n1, .slice S.a2 c.chans.length S.n2, .slice S.a3 c.tasks.length S.n3], .int .i64 r, .int .i64 s] w fun e w' => e = .returned (.int .i64 (startOf c r s)) ∧ Below w.heap.size w w' := by
  obtain ⟨n, rfl⟩ := Int.eq_ofNat_of_zero_le h.1
  have hn : n < c.slots.length := by omega
  have n6 := ok.nslots
  have hm := (startOf_rng ok hr (s := n) (by omega))
  rw [Int.toNat_natCast] at hm
  have HA := Lib.hid (fun k (h : k < c.slots.length) => (⟨aheadOf_rng ok k (by omega), aheadOf_rng ok (k + 1) (by omega)⟩ : _ ∧ _))
  have HR := Lib.hid (show startOf c r n = r * aheadOf c c.slots.length + aheadOf c n from rfl)
  have HM := Lib.hid (show r * roundOf c = r * aheadOf c c.slots.length from rfl)
  rw [HM.out] at hm
  have HS := Lib.hid (fun k => show aheadOf c (k + 1) = aheadOf c k + (nth c.slots k).len from rfl)
  have hwm : IntKind.i64.wrap (r * aheadOf c c.slots.length) = r * aheadOf c c.slots.length := IntWalk.i64_in _ (by omega)
  have hwn : IntKind.i64.wrap (r * aheadOf c c.slots.length + aheadOf c n) = r * aheadOf c c.slots.length + aheadOf c n := IntWalk.i64_in _ (by omega)
  clear ok h HM
  (obtain ⟨a0, n0, a1, n1, a2, n2, a3, n3⟩ := S; obtain ⟨hs0, hs1, hs2, hs3⟩ := hs; dsimp only at hs0 hs1 hs2 hs3 ⊢)
  go_enter Try.func46, Try.ntmps46
  go_wp2_with fail
  go_loopw [7, 8, 14] (fun sv av iv wr => ∃ i : Nat, i ≤ c.slots.length ∧ sv = .int .i64 (aheadOf c i) ∧ av = .int .i64 (aheadOf c (min i n)) ∧ iv = .int .i64 i ∧ Below w.heap.size w wr) (fun _ _ iv _ => c.slots.length - (intOf iv).toNat)
  case atStart => exact ⟨0, Nat.zero_le _, rfl, by simp [aheadOf], rfl, byB⟩
  case round =>
    obtain ⟨i, hi, rfl, rfl, rfl, hbr⟩ := hrel
    have so := hbr.size
    by_cases hlt : i < c.slots.length
    · obtain ⟨b1, o1, rfl, hI1, k0, k1⟩ := (hs0.next hB hbr).at_slot hlt
      have hbl : b1 < wr.heap.size := by have : b1 < B := hI1; omega
      have i0 : (0 : Int) ≤ i := by omega
      have i1 : (i : Int) < c.slots.length := by omega
      have hA := HA.out i hlt
      have hS := HS.out i
      have hw : IntKind.i64.wrap (aheadOf c i + (nth c.slots i).len) = aheadOf c (i + 1) := by rw [← hS]; exact IntWalk.i64_in _ (by omega)
      replace hS := Lib.hid hS
      by_cases hin : i < n
      · have i2 : (i : Int) < n := by omega
        rw [show min i n = i by omega]
        go_wp2_with fail
        go_roundw
        case rel => exact ⟨i + 1, by omega, rfl, by rw [show min (i + 1) n = i + 1 by omega], by go_num, byB⟩
        case measure => simp [intOf]; omega
      · have i2 : ¬ (i : Int) < n := by omega
        have i3 : decide (i < n) = false := by simp; omega
        rw [show min i n = n by omega]
        go_wp2_with fail
        go_roundw
        case rel => exact ⟨i + 1, by omega, rfl, by rw [show min (i + 1) n = n by omega], by go_num, byB⟩
        case measure => simp [intOf]; omega
    · obtain rfl : i = c.slots.length := by omega
      rw [show min c.slots.length n = n by omega]
      go_wp2_with fail
      go_ret
      exact ⟨ret_int HR.out.symm, hbr⟩
end Go.Proofs.Ytinlmkhlgclbfab
end
