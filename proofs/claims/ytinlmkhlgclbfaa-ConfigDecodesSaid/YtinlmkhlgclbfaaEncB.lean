/-
  EncB: contract of config's Encode.
-/
import Derived.Test.YtinlmkhlgclbfaaEncA
namespace Go.Proofs.Ytinlmkhlgclbfaa
open Go.RowKit
set_option maxRecDepth 100000
set_option maxHeartbeats 4000000

theorem u8s_map (bs : List Int) : u8s bs = bs.map (Value.int .u8) := by
  unfold u8s
  induction bs with
  | nil => rfl
  | cons n bs ih => rw [List.flatMap_cons, ih]; rfl
theorem conv_bytes {base n c : Nat} {A : Option Addr} {bs : List Int} (w : World) (h : w.ownsRow base 5 1 (.slice A n c) n (u8s bs)) (hpos : 0 < n) :
    (convert 127 9 (.slice A n c)).run Try.prog w = .ok (.string (strOf bs)) w := by
  obtain ⟨A', c', hv, _, _, _, hl, hc⟩ := own_form h
  injection hv with e1 e2 e3
  subst e1; subst e3
  rw [run_convert_bytes_string w 127 9 5 A n c Try.underlying127 Try.underlying5 Try.underlying9]
  rcases hc with ⟨_, h0, _⟩ | ⟨g, rfl, _, _, hcells⟩
  · omega
  · refine run_bytesToString w ⟨g, 0, none⟩ n c bs ?_
    have := run_loadCells_list (P := Try.prog) (w := w) ⟨g, 0, none⟩ (u8s bs) (fun j v hj => by rw [Addr.add_lit]; exact hcells j v hj)
    rw [hl, Nat.mul_one] at this
    rw [this, u8s_map]

theorem configEncode (c : TCfg) (S : TCfgS) (B : Nat) (w : World) (hB : B ≤ w.heap.size) (hs : TCfg.At (Low B) w c S) :
    Calls Try.prog 39 #[.agg #[.int .i64 c.sets, .int .i64 c.ways, .int .i64 c.doms, .int .i64 c.pad, .int .i64 c.quantum, .slice S.a0 c.slots.length S.n0, .slice S.a1 c.owners.length S.n1, .slice S.a2 c.chans.length S.n2, .slice S.a3 c.tasks.length S.n3]] w (RetStrE (encRes c) (checkConfig c) w) := by
  have H1 := Lib.hid (fun W (h : Below w.heap.size w W) => configCheck c S B W (Nat.le_trans hB h.size) (hs.next hB h))
  cases e1 : decide (checkConfig c = 0)
  · have e1 : checkConfig c ≠ 0 := by simpa using e1
    have R := show encRes c = [] by unfold encRes; rw [if_neg e1]
    rw [R]
    have b1 : (checkConfig c != 0) = true := by simp [e1]
    clear hs e1 R
    generalize checkConfig c = CE at *
    go_enter Try.func39, Try.ntmps39
    go_wp2_with (go_at_call 42; refine (H1.out _ (by repeat (first | with_reducible exact Below.refl _ _ | with_reducible assumption | (with_reducible refine Below.drew ?_) | (with_reducible refine Below.alloc ?_ ?_ _; rotate_left; (first | omega | (simp <;> omega))) | (with_reducible refine Below.setCell ?_ ?_ _; rotate_left; (first | omega | (simp <;> omega))) | (with_reducible refine below_drewN ?_ _) | (refine Below.trans ?_ (Below.mono (by with_reducible assumption) (by first | omega | (simp <;> omega))))))).mono ?_; rintro e w1 ⟨rfl, hb1⟩)
    refine bodyPost_ret (v := .tuple #[.string ⟨#[]⟩, .int .i64 CE]) (by simp [results, Try.results39, go_sem, *]) rfl ?_
    exact ⟨rfl, (by repeat (first | with_reducible exact Below.refl _ _ | with_reducible assumption | (with_reducible refine Below.drew ?_) | (with_reducible refine Below.alloc ?_ ?_ _; rotate_left; (first | omega | (simp <;> omega))) | (with_reducible refine Below.setCell ?_ ?_ _; rotate_left; (first | omega | (simp <;> omega))) | (with_reducible refine below_drewN ?_ _) | (refine Below.trans ?_ (Below.mono (by with_reducible assumption) (by first | omega | (simp <;> omega))))))⟩
  have e1 : checkConfig c = 0 := by simpa using e1
  have R := show encRes c = encB c by unfold encRes; rw [if_pos e1]
  have ok := checkConfig_ok e1
  rw [R, e1]
  rw [e1] at H1
  have k0 := ok.nslots.2
  have k1 := ok.nowners
  have k2 := ok.nchans
  have k3 := ok.ntasks
  have hsl := Lib.hid ok.slot
  have how := Lib.hid ok.owner
  have hch := Lib.hid ok.chan
  have htk := Lib.hid ok.task
  have hB0 := Lib.hid (show [] ++ lowB [67, c.sets, c.ways, c.doms, c.pad, c.quantum, (c.slots.length : Int)] = headB c by
    have d1 := ok.sets; have d2 := ok.ways; have d3 := ok.doms; have d4 := ok.pad; have d5 := ok.quantum
    have d6 : 0 ≤ 5 * c.sets * c.ways := Int.mul_nonneg (by omega) (by omega)
    rw [List.nil_append, lowB_small]
    · rfl
    · intro x hx
      simp only [List.mem_cons, List.not_mem_nil, or_false] at hx
      omega)
  have hlow := Lib.hid (fun (x : Nat) (h : x ≤ 6) => show lowB [(x : Int)] = [(x : Int)] from lowB_small (by intro y hy; simp only [List.mem_singleton] at hy; omega))
  have hlo1 := Lib.hid (fun (x : Int) (h : 0 ≤ x) (h' : x < 256) => show lowB [x] = [x] from lowB_small (by intro y hy; simp only [List.mem_singleton] at hy; omega))
  have hoB := Lib.hid (show lowB c.owners = c.owners from lowB_small (by
    have d3 := ok.doms
    intro x hx
    obtain ⟨i, hi, rfl⟩ := List.getElem_of_mem hx
    rw [← nth_eq hi]
    have := ok.owner i hi
    omega))
  have hd4 := ok.doms.2
  clear e1 R ok
  (obtain ⟨a0, n0, a1, n1, a2, n2, a3, n3⟩ := S; obtain ⟨hs0, hs1, hs2, hs3⟩ := hs; dsimp only at hs0 hs1 hs2 hs3 ⊢)
  dsimp only at H1
  go_enter Try.func39, Try.ntmps39
  go_wp2_with fail
  (go_at_call 42; refine (H1.out _ (by repeat (first | with_reducible exact Below.refl _ _ | with_reducible assumption | (with_reducible refine Below.drew ?_) | (with_reducible refine Below.alloc ?_ ?_ _; rotate_left; (first | omega | (simp <;> omega))) | (with_reducible refine Below.setCell ?_ ?_ _; rotate_left; (first | omega | (simp <;> omega))) | (with_reducible refine below_drewN ?_ _) | (refine Below.trans ?_ (Below.mono (by with_reducible assumption) (by first | omega | (simp <;> omega))))))).mono ?_; rintro e w1 ⟨rfl, hb_w1⟩; refine have_then (P := w1.heap[w.heap.size]? = some (.cells #[.int .i64 c.sets, .int .i64 c.ways, .int .i64 c.doms, .int .i64 c.pad, .int .i64 c.quantum, .slice a0 c.slots.length n0, .slice a1 c.owners.length n1, .slice a2 c.chans.length n2, .slice a3 c.tasks.length n3] 63)) ?_ (fun a_w1 => ?_); (focus (refine (hb_w1.block _ ?_).trans ?_; (first | omega | (simp <;> omega)); (repeat (first | with_reducible exact heap_set2 (by with_reducible assumption) | with_reducible exact heap_set2 (heapAt _ _ _ rfl) | with_reducible exact heap_set1 (by with_reducible assumption) | with_reducible exact heap_set1 (heapAt _ _ _ rfl) | with_reducible assumption | (with_reducible refine heapAt _ _ _ ?_; first | rfl | (first | omega | (simp <;> omega))) | (with_reducible refine heap_drew ?_) | (with_reducible refine heap_drewN ?_) | (with_reducible refine (heap_alloc_old _ _ ?_).trans ?_; (first | omega | (simp <;> omega))) | (with_reducible refine heap_set_far ?_ ?_; rotate_left; (first | omega | (simp <;> omega))))); done)); obtain ⟨ca_w1, fa_w1, za_w1⟩ := blk a_w1; refine have_then (P := Below w.heap.size w w1) ?_ (fun h_w1 => ?_); (focus ((repeat (first | with_reducible exact Below.refl _ _ | with_reducible assumption | (with_reducible refine Below.drew ?_) | (with_reducible refine Below.alloc ?_ ?_ _; rotate_left; (first | omega | (simp <;> omega))) | (with_reducible refine Below.setCell ?_ ?_ _; rotate_left; (first | omega | (simp <;> omega))) | (with_reducible refine below_drewN ?_ _) | (refine Below.trans ?_ (Below.mono (by with_reducible assumption) (by first | omega | (simp <;> omega)))))); done)); have s_w1 := Below.size h_w1; have t_w1 := Below.size hb_w1; (try simp at t_w1); revert hb_w1; intro hb_w1)
  have hW0 : Wr w1.heap.size (w1.heap.size + 1) (w1.alloc (.cells #[.slice none 0 0] 129)) [] none 0 0 := ⟨heapAt _ _ _ rfl, World.ownsRow_nil _ _ _ _, by omega⟩
  go_wp2_with fail
  (go_at_call 81; refine (writerOneLit [67, c.sets, c.ways, c.doms, c.pad, c.quantum, (c.slots.length : Int)] 7 rfl _ w1.heap.size (w1.heap.size + 1) [] none 0 0 _ (by simp) hW0 (by simp) (by omega)).mono ?_; rintro e w2 ⟨A_w2, c_w2, rfl, hW_w2, hat_w2, hk_w2⟩; have hb_w2 := hk_w2.below; refine have_then (P := w2.heap[w.heap.size]? = some (.cells #[.int .i64 c.sets, .int .i64 c.ways, .int .i64 c.doms, .int .i64 c.pad, .int .i64 c.quantum, .slice a0 c.slots.length n0, .slice a1 c.owners.length n1, .slice a2 c.chans.length n2, .slice a3 c.tasks.length n3] 63)) ?_ (fun a_w2 => ?_); (focus (refine (hk_w2.block _ ?_ ?_ ?_).trans ?_; (first | omega | (simp <;> omega)); (first | omega | (simp <;> omega)); (intro e; have hlt := own_lt hW0.own _ e; omega); (repeat (first | with_reducible exact heap_set2 (by with_reducible assumption) | with_reducible exact heap_set2 (heapAt _ _ _ rfl) | with_reducible exact heap_set1 (by with_reducible assumption) | with_reducible exact heap_set1 (heapAt _ _ _ rfl) | with_reducible assumption | (with_reducible refine heapAt _ _ _ ?_; first | rfl | (first | omega | (simp <;> omega))) | (with_reducible refine heap_drew ?_) | (with_reducible refine heap_drewN ?_) | (with_reducible refine (heap_alloc_old _ _ ?_).trans ?_; (first | omega | (simp <;> omega))) | (with_reducible refine heap_set_far ?_ ?_; rotate_left; (first | omega | (simp <;> omega))))); done)); obtain ⟨ca_w2, fa_w2, za_w2⟩ := blk a_w2; refine have_then (P := Below w.heap.size w w2) ?_ (fun h_w2 => ?_); (focus ((repeat (first | with_reducible exact Below.refl _ _ | with_reducible assumption | (with_reducible refine Below.drew ?_) | (with_reducible refine Below.alloc ?_ ?_ _; rotate_left; (first | omega | (simp <;> omega))) | (with_reducible refine Below.setCell ?_ ?_ _; rotate_left; (first | omega | (simp <;> omega))) | (with_reducible refine below_drewN ?_ _) | (refine Below.trans ?_ (Below.mono (by with_reducible assumption) (by first | omega | (simp <;> omega)))))); done)); have s_w2 := Below.size h_w2; have t_w2 := Below.size hb_w2; (try simp at t_w2))
  rw [hB0.out, show 0 + 7 = 7 from rfl] at hW_w2
  clear hat_w2 hW0 hB0
  go_wp2_with fail
  go_loopw [38] (fun iv wr => ∃ (i : Nat) (A1 : Option Addr) (c1 : Nat), i ≤ c.slots.length ∧ iv = .int .i64 i ∧ Wr w1.heap.size (w1.heap.size + 1) wr (headB c ++ (c.slots.take i).flatMap slotB) A1 (7 + 3 * i) c1 ∧ wr.heap[w.heap.size]? = some (.cells #[.int .i64 c.sets, .int .i64 c.ways, .int .i64 c.doms, .int .i64 c.pad, .int .i64 c.quantum, .slice a0 c.slots.length n0, .slice a1 c.owners.length n1, .slice a2 c.chans.length n2, .slice a3 c.tasks.length n3] 63) ∧ Below w.heap.size w wr ∧ w1.heap.size + 1 ≤ wr.heap.size) (fun iv _ => c.slots.length - (intOf iv).toNat)
  case atStart => exact ⟨0, A_w2, c_w2, Nat.zero_le _, rfl, by simpa using hW_w2, a_w2, h_w2, by omega⟩
  case round =>
    clear hW_w2 hk_w2 hb_w2 a_w2 ca_w2 fa_w2 za_w2 h_w2
    obtain ⟨i, A1, c1, hi, rfl, hW, hp, hbr, hg⟩ := hrel
    obtain ⟨cp, fp, zp⟩ := blk hp
    have so := hbr.size
    by_cases hlt : i < c.slots.length
    · obtain ⟨b, o, rfl, hI, hc0, hc1⟩ := (hs0.next hB hbr).at_slot hlt
      have hbl : b < w.heap.size := Nat.lt_of_lt_of_le hI hB
      have hbr' : b < wr.heap.size := by omega
      have hi0 : (0 : Int) ≤ i := by omega
      have hi1 : (i : Int) < c.slots.length := by omega
      obtain ⟨d0, d1, d2, d3⟩ := hsl.out i hlt
      have E := Lib.hid (show headB c ++ (c.slots.take i).flatMap slotB ++ [(nth c.slots i).dom] ++ [(nth c.slots i).len].flatMap (fun n => [n / 256, n % 256]) = headB c ++ (c.slots.take (i + 1)).flatMap slotB by rw [tk_snoc hlt]; simp [slotB])
      have HL := Lib.hid (hlo1.out _ d0 (by omega))
      go_wp2_with fail
      (go_at_call 81; refine (writerOneLit [(nth c.slots i).dom] 1 rfl _ w1.heap.size (w1.heap.size + 1) _ A1 (7 + 3 * i) c1 _ (by simp) (hW.alloc _) (by simp; omega) (by omega)).mono ?_; rintro e w2 ⟨A_w2, c_w2, rfl, hW_w2, hat_w2, hk_w2⟩; have hb_w2 := hk_w2.below; refine have_then (P := w2.heap[wr.heap.size]? = some (.cells #[.int .i64 (nth c.slots i).dom, .int .i64 (nth c.slots i).len] 121)) ?_ (fun x_w2 => ?_); (focus (refine (hk_w2.block _ ?_ ?_ ?_).trans ?_; (first | omega | (simp <;> omega)); (first | omega | (simp <;> omega)); (intro e; have hlt := own_lt hW.own _ e; omega); (repeat (first | with_reducible exact heap_set2 (by with_reducible assumption) | with_reducible exact heap_set2 (heapAt _ _ _ rfl) | with_reducible exact heap_set1 (by with_reducible assumption) | with_reducible exact heap_set1 (heapAt _ _ _ rfl) | with_reducible assumption | (with_reducible refine heapAt _ _ _ ?_; first | rfl | (first | omega | (simp <;> omega))) | (with_reducible refine heap_drew ?_) | (with_reducible refine heap_drewN ?_) | (with_reducible refine (heap_alloc_old _ _ ?_).trans ?_; (first | omega | (simp <;> omega))) | (with_reducible refine heap_set_far ?_ ?_; rotate_left; (first | omega | (simp <;> omega))))); done)); obtain ⟨cx_w2, fx_w2, zx_w2⟩ := blk x_w2; refine have_then (P := w2.heap[w.heap.size]? = some (.cells #[.int .i64 c.sets, .int .i64 c.ways, .int .i64 c.doms, .int .i64 c.pad, .int .i64 c.quantum, .slice (some ⟨b, o, none⟩) c.slots.length n0, .slice a1 c.owners.length n1, .slice a2 c.chans.length n2, .slice a3 c.tasks.length n3] 63)) ?_ (fun a_w2 => ?_); (focus (refine (hk_w2.block _ ?_ ?_ ?_).trans ?_; (first | omega | (simp <;> omega)); (first | omega | (simp <;> omega)); (intro e; have hlt := own_lt hW.own _ e; omega); (repeat (first | with_reducible exact heap_set2 (by with_reducible assumption) | with_reducible exact heap_set2 (heapAt _ _ _ rfl) | with_reducible exact heap_set1 (by with_reducible assumption) | with_reducible exact heap_set1 (heapAt _ _ _ rfl) | with_reducible assumption | (with_reducible refine heapAt _ _ _ ?_; first | rfl | (first | omega | (simp <;> omega))) | (with_reducible refine heap_drew ?_) | (with_reducible refine heap_drewN ?_) | (with_reducible refine (heap_alloc_old _ _ ?_).trans ?_; (first | omega | (simp <;> omega))) | (with_reducible refine heap_set_far ?_ ?_; rotate_left; (first | omega | (simp <;> omega))))); done)); obtain ⟨ca_w2, fa_w2, za_w2⟩ := blk a_w2; refine have_then (P := Below w.heap.size w w2) ?_ (fun h_w2 => ?_); (focus ((repeat (first | with_reducible exact Below.refl _ _ | with_reducible assumption | (with_reducible refine Below.drew ?_) | (with_reducible refine Below.alloc ?_ ?_ _; rotate_left; (first | omega | (simp <;> omega))) | (with_reducible refine Below.setCell ?_ ?_ _; rotate_left; (first | omega | (simp <;> omega))) | (with_reducible refine below_drewN ?_ _) | (refine Below.trans ?_ (Below.mono (by with_reducible assumption) (by first | omega | (simp <;> omega)))))); done)); have s_w2 := Below.size h_w2; have t_w2 := Below.size hb_w2; (try simp at t_w2))
      rw [HL.out] at hW_w2
      go_wp2_with fail
      (go_at_call 82; refine (writerTwoLit [(nth c.slots i).len] 1 rfl _ w1.heap.size (w1.heap.size + 1) _ A_w2 (7 + 3 * i + 1) c_w2 w2 rfl hW_w2 (by omega) (by omega) (by intro x hx; simp only [List.mem_singleton] at hx; omega)).mono ?_; rintro e w3 ⟨A_w3, c_w3, rfl, hW_w3, hat_w3, hk_w3⟩; have hb_w3 := hk_w3.below; refine have_then (P := w3.heap[w.heap.size]? = some (.cells #[.int .i64 c.sets, .int .i64 c.ways, .int .i64 c.doms, .int .i64 c.pad, .int .i64 c.quantum, .slice (some ⟨b, o, none⟩) c.slots.length n0, .slice a1 c.owners.length n1, .slice a2 c.chans.length n2, .slice a3 c.tasks.length n3] 63)) ?_ (fun a_w3 => ?_); (focus (refine (hk_w3.block _ ?_ ?_ ?_).trans ?_; (first | omega | (simp <;> omega)); (first | omega | (simp <;> omega)); (intro e; have hlt := own_lt hW_w2.own _ e; omega); (repeat (first | with_reducible exact heap_set2 (by with_reducible assumption) | with_reducible exact heap_set2 (heapAt _ _ _ rfl) | with_reducible exact heap_set1 (by with_reducible assumption) | with_reducible exact heap_set1 (heapAt _ _ _ rfl) | with_reducible assumption | (with_reducible refine heapAt _ _ _ ?_; first | rfl | (first | omega | (simp <;> omega))) | (with_reducible refine heap_drew ?_) | (with_reducible refine heap_drewN ?_) | (with_reducible refine (heap_alloc_old _ _ ?_).trans ?_; (first | omega | (simp <;> omega))) | (with_reducible refine heap_set_far ?_ ?_; rotate_left; (first | omega | (simp <;> omega))))); done)); obtain ⟨ca_w3, fa_w3, za_w3⟩ := blk a_w3; refine have_then (P := Below w.heap.size w w3) ?_ (fun h_w3 => ?_); (focus ((repeat (first | with_reducible exact Below.refl _ _ | with_reducible assumption | (with_reducible refine Below.drew ?_) | (with_reducible refine Below.alloc ?_ ?_ _; rotate_left; (first | omega | (simp <;> omega))) | (with_reducible refine Below.setCell ?_ ?_ _; rotate_left; (first | omega | (simp <;> omega))) | (with_reducible refine below_drewN ?_ _) | (refine Below.trans ?_ (Below.mono (by with_reducible assumption) (by first | omega | (simp <;> omega)))))); done)); have s_w3 := Below.size h_w3; have t_w3 := Below.size hb_w3; (try simp at t_w3))
      rw [E.out] at hW_w3
      go_wp2_with fail
      go_roundw
      case rel =>
        refine ⟨i + 1, A_w3, c_w3, by omega, by go_num, ?_, a_w3, h_w3, by omega⟩
        rw [show 7 + 3 * (i + 1) = 7 + 3 * i + 1 + 2 * 1 by omega]
        exact hW_w3
      case measure => simp [intOf]; omega
    · obtain rfl : i = c.slots.length := by omega
      rw [List.take_length] at hW
      have L1 := Lib.hid (hlow.out c.owners.length (by omega))
      have L2 := Lib.hid (hlow.out c.chans.length (by omega))
      go_wp2_with fail
      (go_at_call 81; refine (writerOneLit [(c.owners.length : Int)] 1 rfl _ w1.heap.size (w1.heap.size + 1) _ A1 (7 + 3 * c.slots.length) c1 wr rfl hW (by omega) (by omega)).mono ?_; rintro e w2 ⟨A_w2, c_w2, rfl, hW_w2, hat_w2, hk_w2⟩; have hb_w2 := hk_w2.below; refine have_then (P := w2.heap[w.heap.size]? = some (.cells #[.int .i64 c.sets, .int .i64 c.ways, .int .i64 c.doms, .int .i64 c.pad, .int .i64 c.quantum, .slice a0 c.slots.length n0, .slice a1 c.owners.length n1, .slice a2 c.chans.length n2, .slice a3 c.tasks.length n3] 63)) ?_ (fun a_w2 => ?_); (focus (refine (hk_w2.block _ ?_ ?_ ?_).trans ?_; (first | omega | (simp <;> omega)); (first | omega | (simp <;> omega)); (intro e; have hlt := own_lt hW.own _ e; omega); (repeat (first | with_reducible exact heap_set2 (by with_reducible assumption) | with_reducible exact heap_set2 (heapAt _ _ _ rfl) | with_reducible exact heap_set1 (by with_reducible assumption) | with_reducible exact heap_set1 (heapAt _ _ _ rfl) | with_reducible assumption | (with_reducible refine heapAt _ _ _ ?_; first | rfl | (first | omega | (simp <;> omega))) | (with_reducible refine heap_drew ?_) | (with_reducible refine heap_drewN ?_) | (with_reducible refine (heap_alloc_old _ _ ?_).trans ?_; (first | omega | (simp <;> omega))) | (with_reducible refine heap_set_far ?_ ?_; rotate_left; (first | omega | (simp <;> omega))))); done)); obtain ⟨ca_w2, fa_w2, za_w2⟩ := blk a_w2; refine have_then (P := Below w.heap.size w w2) ?_ (fun h_w2 => ?_); (focus ((repeat (first | with_reducible exact Below.refl _ _ | with_reducible assumption | (with_reducible refine Below.drew ?_) | (with_reducible refine Below.alloc ?_ ?_ _; rotate_left; (first | omega | (simp <;> omega))) | (with_reducible refine Below.setCell ?_ ?_ _; rotate_left; (first | omega | (simp <;> omega))) | (with_reducible refine below_drewN ?_ _) | (refine Below.trans ?_ (Below.mono (by with_reducible assumption) (by first | omega | (simp <;> omega)))))); done)); have s_w2 := Below.size h_w2; have t_w2 := Below.size hb_w2; (try simp at t_w2))
      rw [L1.out] at hW_w2
      go_wp2_with fail
      (go_at_call 81; refine (writerOne c.owners a1 n1 (Low B) w1.heap.size (w1.heap.size + 1) _ A_w2 (7 + 3 * c.slots.length + 1) c_w2 w2 hW_w2 (by omega) (by omega) (hs1.next hB h_w2) (fun b hb => ⟨by simp only [Low] at hb; omega, by simp only [Low] at hb; omega, fun e => by have := (own_lt hW_w2.own _ e).1; simp only [Low] at hb; omega⟩)).mono ?_; rintro e w3 ⟨A_w3, c_w3, rfl, hW_w3, hat_w3, hk_w3⟩; have hb_w3 := hk_w3.below; refine have_then (P := w3.heap[w.heap.size]? = some (.cells #[.int .i64 c.sets, .int .i64 c.ways, .int .i64 c.doms, .int .i64 c.pad, .int .i64 c.quantum, .slice a0 c.slots.length n0, .slice a1 c.owners.length n1, .slice a2 c.chans.length n2, .slice a3 c.tasks.length n3] 63)) ?_ (fun a_w3 => ?_); (focus (refine (hk_w3.block _ ?_ ?_ ?_).trans ?_; (first | omega | (simp <;> omega)); (first | omega | (simp <;> omega)); (intro e; have hlt := own_lt hW_w2.own _ e; omega); (repeat (first | with_reducible exact heap_set2 (by with_reducible assumption) | with_reducible exact heap_set2 (heapAt _ _ _ rfl) | with_reducible exact heap_set1 (by with_reducible assumption) | with_reducible exact heap_set1 (heapAt _ _ _ rfl) | with_reducible assumption | (with_reducible refine heapAt _ _ _ ?_; first | rfl | (first | omega | (simp <;> omega))) | (with_reducible refine heap_drew ?_) | (with_reducible refine heap_drewN ?_) | (with_reducible refine (heap_alloc_old _ _ ?_).trans ?_; (first | omega | (simp <;> omega))) | (with_reducible refine heap_set_far ?_ ?_; rotate_left; (first | omega | (simp <;> omega))))); done)); obtain ⟨ca_w3, fa_w3, za_w3⟩ := blk a_w3; refine have_then (P := Below w.heap.size w w3) ?_ (fun h_w3 => ?_); (focus ((repeat (first | with_reducible exact Below.refl _ _ | with_reducible assumption | (with_reducible refine Below.drew ?_) | (with_reducible refine Below.alloc ?_ ?_ _; rotate_left; (first | omega | (simp <;> omega))) | (with_reducible refine Below.setCell ?_ ?_ _; rotate_left; (first | omega | (simp <;> omega))) | (with_reducible refine below_drewN ?_ _) | (refine Below.trans ?_ (Below.mono (by with_reducible assumption) (by first | omega | (simp <;> omega)))))); done)); have s_w3 := Below.size h_w3; have t_w3 := Below.size hb_w3; (try simp at t_w3))
      rw [hoB.out] at hW_w3
      go_wp2_with fail
      (go_at_call 81; refine (writerOneLit [(c.chans.length : Int)] 1 rfl _ w1.heap.size (w1.heap.size + 1) _ A_w3 (7 + 3 * c.slots.length + 1 + c.owners.length) c_w3 w3 rfl hW_w3 (by omega) (by omega)).mono ?_; rintro e w4 ⟨A_w4, c_w4, rfl, hW_w4, hat_w4, hk_w4⟩; have hb_w4 := hk_w4.below; refine have_then (P := w4.heap[w.heap.size]? = some (.cells #[.int .i64 c.sets, .int .i64 c.ways, .int .i64 c.doms, .int .i64 c.pad, .int .i64 c.quantum, .slice a0 c.slots.length n0, .slice a1 c.owners.length n1, .slice a2 c.chans.length n2, .slice a3 c.tasks.length n3] 63)) ?_ (fun a_w4 => ?_); (focus (refine (hk_w4.block _ ?_ ?_ ?_).trans ?_; (first | omega | (simp <;> omega)); (first | omega | (simp <;> omega)); (intro e; have hlt := own_lt hW_w3.own _ e; omega); (repeat (first | with_reducible exact heap_set2 (by with_reducible assumption) | with_reducible exact heap_set2 (heapAt _ _ _ rfl) | with_reducible exact heap_set1 (by with_reducible assumption) | with_reducible exact heap_set1 (heapAt _ _ _ rfl) | with_reducible assumption | (with_reducible refine heapAt _ _ _ ?_; first | rfl | (first | omega | (simp <;> omega))) | (with_reducible refine heap_drew ?_) | (with_reducible refine heap_drewN ?_) | (with_reducible refine (heap_alloc_old _ _ ?_).trans ?_; (first | omega | (simp <;> omega))) | (with_reducible refine heap_set_far ?_ ?_; rotate_left; (first | omega | (simp <;> omega))))); done)); obtain ⟨ca_w4, fa_w4, za_w4⟩ := blk a_w4; refine have_then (P := Below w.heap.size w w4) ?_ (fun h_w4 => ?_); (focus ((repeat (first | with_reducible exact Below.refl _ _ | with_reducible assumption | (with_reducible refine Below.drew ?_) | (with_reducible refine Below.alloc ?_ ?_ _; rotate_left; (first | omega | (simp <;> omega))) | (with_reducible refine Below.setCell ?_ ?_ _; rotate_left; (first | omega | (simp <;> omega))) | (with_reducible refine below_drewN ?_ _) | (refine Below.trans ?_ (Below.mono (by with_reducible assumption) (by first | omega | (simp <;> omega)))))); done)); have s_w4 := Below.size h_w4; have t_w4 := Below.size hb_w4; (try simp at t_w4))
      rw [L2.out] at hW_w4
      go_wp2_with fail
      go_loopw [72] (fun iv wr => ∃ (i : Nat) (A1 : Option Addr) (c1 : Nat), i ≤ c.chans.length ∧ iv = .int .i64 i ∧ Wr w1.heap.size (w1.heap.size + 1) wr (headB c ++ c.slots.flatMap slotB ++ [(c.owners.length : Int)] ++ c.owners ++ [(c.chans.length : Int)] ++ (c.chans.take i).flatMap chanB) A1 (7 + 3 * c.slots.length + 1 + c.owners.length + 1 + 3 * i) c1 ∧ wr.heap[w.heap.size]? = some (.cells #[.int .i64 c.sets, .int .i64 c.ways, .int .i64 c.doms, .int .i64 c.pad, .int .i64 c.quantum, .slice a0 c.slots.length n0, .slice a1 c.owners.length n1, .slice a2 c.chans.length n2, .slice a3 c.tasks.length n3] 63) ∧ Below w.heap.size w wr ∧ w1.heap.size + 1 ≤ wr.heap.size) (fun iv _ => c.chans.length - (intOf iv).toNat)
      case atStart => exact ⟨0, A_w4, c_w4, Nat.zero_le _, rfl, by simpa using hW_w4, a_w4, h_w4, by omega⟩
      case round =>
        clear hW hp hbr hg cp fp zp so hW_w2 hk_w2 hb_w2 a_w2 ca_w2 fa_w2 za_w2 h_w2 hW_w3 hk_w3 hb_w3 a_w3 ca_w3 fa_w3 za_w3 h_w3 hW_w4 hk_w4 hb_w4 a_w4 ca_w4 fa_w4 za_w4 h_w4 L1 L2
        obtain ⟨i, A1, c1, hi, rfl, hW, hp, hbr, hg⟩ := hrel
        obtain ⟨cp, fp, zp⟩ := blk hp
        have so := hbr.size
        by_cases hlt : i < c.chans.length
        · obtain ⟨b, o, rfl, hI, hc0, hc1, hc2⟩ := (hs2.next hB hbr).at_chan hlt
          have hbl : b < w.heap.size := Nat.lt_of_lt_of_le hI hB
          have hbr' : b < wr.heap.size := by omega
          have hi0 : (0 : Int) ≤ i := by omega
          have hi1 : (i : Int) < c.chans.length := by omega
          obtain ⟨d0, d1, _, d2⟩ := hch.out i hlt
          have E := Lib.hid (show headB c ++ c.slots.flatMap slotB ++ [(c.owners.length : Int)] ++ c.owners ++ [(c.chans.length : Int)] ++ (c.chans.take i).flatMap chanB ++ lowB [(nth c.chans i).src, (nth c.chans i).dst, (nth c.chans i).size] = headB c ++ c.slots.flatMap slotB ++ [(c.owners.length : Int)] ++ c.owners ++ [(c.chans.length : Int)] ++ (c.chans.take (i + 1)).flatMap chanB by
            rw [tk_snoc hlt, lowB_small]
            · simp [chanB]
            · intro x hx; simp only [List.mem_cons, List.not_mem_nil, or_false] at hx; omega)
          go_wp2_with fail
          (go_at_call 81; refine (writerOneLit [(nth c.chans i).src, (nth c.chans i).dst, (nth c.chans i).size] 3 rfl _ w1.heap.size (w1.heap.size + 1) _ A1 (7 + 3 * c.slots.length + 1 + c.owners.length + 1 + 3 * i) c1 _ (by simp) (hW.alloc _) (by simp; omega) (by omega)).mono ?_; rintro e w2 ⟨A_w2, c_w2, rfl, hW_w2, hat_w2, hk_w2⟩; have hb_w2 := hk_w2.below; refine have_then (P := w2.heap[w.heap.size]? = some (.cells #[.int .i64 c.sets, .int .i64 c.ways, .int .i64 c.doms, .int .i64 c.pad, .int .i64 c.quantum, .slice a0 c.slots.length n0, .slice a1 c.owners.length n1, .slice (some ⟨b, o, none⟩) c.chans.length n2, .slice a3 c.tasks.length n3] 63)) ?_ (fun a_w2 => ?_); (focus (refine (hk_w2.block _ ?_ ?_ ?_).trans ?_; (first | omega | (simp <;> omega)); (first | omega | (simp <;> omega)); (intro e; have hlt := own_lt hW.own _ e; omega); (repeat (first | with_reducible exact heap_set2 (by with_reducible assumption) | with_reducible exact heap_set2 (heapAt _ _ _ rfl) | with_reducible exact heap_set1 (by with_reducible assumption) | with_reducible exact heap_set1 (heapAt _ _ _ rfl) | with_reducible assumption | (with_reducible refine heapAt _ _ _ ?_; first | rfl | (first | omega | (simp <;> omega))) | (with_reducible refine heap_drew ?_) | (with_reducible refine heap_drewN ?_) | (with_reducible refine (heap_alloc_old _ _ ?_).trans ?_; (first | omega | (simp <;> omega))) | (with_reducible refine heap_set_far ?_ ?_; rotate_left; (first | omega | (simp <;> omega))))); done)); obtain ⟨ca_w2, fa_w2, za_w2⟩ := blk a_w2; refine have_then (P := Below w.heap.size w w2) ?_ (fun h_w2 => ?_); (focus ((repeat (first | with_reducible exact Below.refl _ _ | with_reducible assumption | (with_reducible refine Below.drew ?_) | (with_reducible refine Below.alloc ?_ ?_ _; rotate_left; (first | omega | (simp <;> omega))) | (with_reducible refine Below.setCell ?_ ?_ _; rotate_left; (first | omega | (simp <;> omega))) | (with_reducible refine below_drewN ?_ _) | (refine Below.trans ?_ (Below.mono (by with_reducible assumption) (by first | omega | (simp <;> omega)))))); done)); have s_w2 := Below.size h_w2; have t_w2 := Below.size hb_w2; (try simp at t_w2))
          rw [E.out] at hW_w2
          go_wp2_with fail
          go_roundw
          case rel =>
            refine ⟨i + 1, A_w2, c_w2, by omega, by go_num, ?_, a_w2, h_w2, by omega⟩
            rw [show 7 + 3 * c.slots.length + 1 + c.owners.length + 1 + 3 * (i + 1) = 7 + 3 * c.slots.length + 1 + c.owners.length + 1 + 3 * i + 3 by omega]
            exact hW_w2
          case measure => simp [intOf]; omega
        · obtain rfl : i = c.chans.length := by omega
          rw [List.take_length] at hW
          have L1 := Lib.hid (hlow.out c.tasks.length (by omega))
          go_wp2_with fail
          (go_at_call 81; refine (writerOneLit [(c.tasks.length : Int)] 1 rfl _ w1.heap.size (w1.heap.size + 1) _ A1 (7 + 3 * c.slots.length + 1 + c.owners.length + 1 + 3 * c.chans.length) c1 wr rfl hW (by omega) (by omega)).mono ?_; rintro e w2 ⟨A_w2, c_w2, rfl, hW_w2, hat_w2, hk_w2⟩; have hb_w2 := hk_w2.below; refine have_then (P := w2.heap[w.heap.size]? = some (.cells #[.int .i64 c.sets, .int .i64 c.ways, .int .i64 c.doms, .int .i64 c.pad, .int .i64 c.quantum, .slice a0 c.slots.length n0, .slice a1 c.owners.length n1, .slice a2 c.chans.length n2, .slice a3 c.tasks.length n3] 63)) ?_ (fun a_w2 => ?_); (focus (refine (hk_w2.block _ ?_ ?_ ?_).trans ?_; (first | omega | (simp <;> omega)); (first | omega | (simp <;> omega)); (intro e; have hlt := own_lt hW.own _ e; omega); (repeat (first | with_reducible exact heap_set2 (by with_reducible assumption) | with_reducible exact heap_set2 (heapAt _ _ _ rfl) | with_reducible exact heap_set1 (by with_reducible assumption) | with_reducible exact heap_set1 (heapAt _ _ _ rfl) | with_reducible assumption | (with_reducible refine heapAt _ _ _ ?_; first | rfl | (first | omega | (simp <;> omega))) | (with_reducible refine heap_drew ?_) | (with_reducible refine heap_drewN ?_) | (with_reducible refine (heap_alloc_old _ _ ?_).trans ?_; (first | omega | (simp <;> omega))) | (with_reducible refine heap_set_far ?_ ?_; rotate_left; (first | omega | (simp <;> omega))))); done)); obtain ⟨ca_w2, fa_w2, za_w2⟩ := blk a_w2; refine have_then (P := Below w.heap.size w w2) ?_ (fun h_w2 => ?_); (focus ((repeat (first | with_reducible exact Below.refl _ _ | with_reducible assumption | (with_reducible refine Below.drew ?_) | (with_reducible refine Below.alloc ?_ ?_ _; rotate_left; (first | omega | (simp <;> omega))) | (with_reducible refine Below.setCell ?_ ?_ _; rotate_left; (first | omega | (simp <;> omega))) | (with_reducible refine below_drewN ?_ _) | (refine Below.trans ?_ (Below.mono (by with_reducible assumption) (by first | omega | (simp <;> omega)))))); done)); have s_w2 := Below.size h_w2; have t_w2 := Below.size hb_w2; (try simp at t_w2))
          rw [L1.out] at hW_w2
          go_wp2_with fail
          go_loopw [95] (fun iv wr => ∃ (i : Nat) (A1 : Option Addr) (c1 : Nat), i ≤ c.tasks.length ∧ iv = .int .i64 i ∧ Wr w1.heap.size (w1.heap.size + 1) wr (headB c ++ c.slots.flatMap slotB ++ [(c.owners.length : Int)] ++ c.owners ++ [(c.chans.length : Int)] ++ c.chans.flatMap chanB ++ [(c.tasks.length : Int)] ++ (c.tasks.take i).flatMap taskB) A1 (7 + 3 * c.slots.length + 1 + c.owners.length + 1 + 3 * c.chans.length + 1 + 7 * i) c1 ∧ wr.heap[w.heap.size]? = some (.cells #[.int .i64 c.sets, .int .i64 c.ways, .int .i64 c.doms, .int .i64 c.pad, .int .i64 c.quantum, .slice a0 c.slots.length n0, .slice a1 c.owners.length n1, .slice a2 c.chans.length n2, .slice a3 c.tasks.length n3] 63) ∧ Below w.heap.size w wr ∧ w1.heap.size + 1 ≤ wr.heap.size) (fun iv _ => c.tasks.length - (intOf iv).toNat)
          case atStart => exact ⟨0, A_w2, c_w2, Nat.zero_le _, rfl, by simpa using hW_w2, a_w2, h_w2, by omega⟩
          case round =>
            clear hW hp hbr hg cp fp zp so hW_w2 hk_w2 hb_w2 a_w2 ca_w2 fa_w2 za_w2 h_w2 L1
            obtain ⟨i, A1, c1, hi, rfl, hW, hp, hbr, hg⟩ := hrel
            obtain ⟨cp, fp, zp⟩ := blk hp
            have so := hbr.size
            by_cases hlt : i < c.tasks.length
            · obtain ⟨b, o, rfl, hI, hc0, hc1, hc2, hc3⟩ := (hs3.next hB hbr).at_task hlt
              have hbl : b < w.heap.size := Nat.lt_of_lt_of_le hI hB
              have hbr' : b < wr.heap.size := by omega
              have hi0 : (0 : Int) ≤ i := by omega
              have hi1 : (i : Int) < c.tasks.length := by omega
              obtain ⟨d0, d1, d2, d3⟩ := htk.out i hlt
              have E := Lib.hid (show headB c ++ c.slots.flatMap slotB ++ [(c.owners.length : Int)] ++ c.owners ++ [(c.chans.length : Int)] ++ c.chans.flatMap chanB ++ [(c.tasks.length : Int)] ++ (c.tasks.take i).flatMap taskB ++ [(nth c.tasks i).dom] ++ [(nth c.tasks i).period, (nth c.tasks i).budget, (nth c.tasks i).dead].flatMap (fun n => [n / 256, n % 256]) = headB c ++ c.slots.flatMap slotB ++ [(c.owners.length : Int)] ++ c.owners ++ [(c.chans.length : Int)] ++ c.chans.flatMap chanB ++ [(c.tasks.length : Int)] ++ (c.tasks.take (i + 1)).flatMap taskB by rw [tk_snoc hlt]; simp [taskB])
              have HL := Lib.hid (hlo1.out _ d0.1 (by omega))
              go_wp2_with fail
              (go_at_call 81; refine (writerOneLit [(nth c.tasks i).dom] 1 rfl _ w1.heap.size (w1.heap.size + 1) _ A1 (7 + 3 * c.slots.length + 1 + c.owners.length + 1 + 3 * c.chans.length + 1 + 7 * i) c1 _ (by simp) (hW.alloc _) (by simp; omega) (by omega)).mono ?_; rintro e w2 ⟨A_w2, c_w2, rfl, hW_w2, hat_w2, hk_w2⟩; have hb_w2 := hk_w2.below; refine have_then (P := w2.heap[wr.heap.size]? = some (.cells #[.int .i64 (nth c.tasks i).dom, .int .i64 (nth c.tasks i).period, .int .i64 (nth c.tasks i).budget, .int .i64 (nth c.tasks i).dead] 108)) ?_ (fun x_w2 => ?_); (focus (refine (hk_w2.block _ ?_ ?_ ?_).trans ?_; (first | omega | (simp <;> omega)); (first | omega | (simp <;> omega)); (intro e; have hlt := own_lt hW.own _ e; omega); (repeat (first | with_reducible exact heap_set2 (by with_reducible assumption) | with_reducible exact heap_set2 (heapAt _ _ _ rfl) | with_reducible exact heap_set1 (by with_reducible assumption) | with_reducible exact heap_set1 (heapAt _ _ _ rfl) | with_reducible assumption | (with_reducible refine heapAt _ _ _ ?_; first | rfl | (first | omega | (simp <;> omega))) | (with_reducible refine heap_drew ?_) | (with_reducible refine heap_drewN ?_) | (with_reducible refine (heap_alloc_old _ _ ?_).trans ?_; (first | omega | (simp <;> omega))) | (with_reducible refine heap_set_far ?_ ?_; rotate_left; (first | omega | (simp <;> omega))))); done)); obtain ⟨cx_w2, fx_w2, zx_w2⟩ := blk x_w2; refine have_then (P := w2.heap[w.heap.size]? = some (.cells #[.int .i64 c.sets, .int .i64 c.ways, .int .i64 c.doms, .int .i64 c.pad, .int .i64 c.quantum, .slice a0 c.slots.length n0, .slice a1 c.owners.length n1, .slice a2 c.chans.length n2, .slice (some ⟨b, o, none⟩) c.tasks.length n3] 63)) ?_ (fun a_w2 => ?_); (focus (refine (hk_w2.block _ ?_ ?_ ?_).trans ?_; (first | omega | (simp <;> omega)); (first | omega | (simp <;> omega)); (intro e; have hlt := own_lt hW.own _ e; omega); (repeat (first | with_reducible exact heap_set2 (by with_reducible assumption) | with_reducible exact heap_set2 (heapAt _ _ _ rfl) | with_reducible exact heap_set1 (by with_reducible assumption) | with_reducible exact heap_set1 (heapAt _ _ _ rfl) | with_reducible assumption | (with_reducible refine heapAt _ _ _ ?_; first | rfl | (first | omega | (simp <;> omega))) | (with_reducible refine heap_drew ?_) | (with_reducible refine heap_drewN ?_) | (with_reducible refine (heap_alloc_old _ _ ?_).trans ?_; (first | omega | (simp <;> omega))) | (with_reducible refine heap_set_far ?_ ?_; rotate_left; (first | omega | (simp <;> omega))))); done)); obtain ⟨ca_w2, fa_w2, za_w2⟩ := blk a_w2; refine have_then (P := Below w.heap.size w w2) ?_ (fun h_w2 => ?_); (focus ((repeat (first | with_reducible exact Below.refl _ _ | with_reducible assumption | (with_reducible refine Below.drew ?_) | (with_reducible refine Below.alloc ?_ ?_ _; rotate_left; (first | omega | (simp <;> omega))) | (with_reducible refine Below.setCell ?_ ?_ _; rotate_left; (first | omega | (simp <;> omega))) | (with_reducible refine below_drewN ?_ _) | (refine Below.trans ?_ (Below.mono (by with_reducible assumption) (by first | omega | (simp <;> omega)))))); done)); have s_w2 := Below.size h_w2; have t_w2 := Below.size hb_w2; (try simp at t_w2))
              rw [HL.out] at hW_w2
              go_wp2_with fail
              (go_at_call 82; refine (writerTwoLit [(nth c.tasks i).period, (nth c.tasks i).budget, (nth c.tasks i).dead] 3 rfl _ w1.heap.size (w1.heap.size + 1) _ A_w2 (7 + 3 * c.slots.length + 1 + c.owners.length + 1 + 3 * c.chans.length + 1 + 7 * i + 1) c_w2 w2 rfl hW_w2 (by omega) (by omega) (by intro x hx; simp only [List.mem_cons, List.not_mem_nil, or_false] at hx; omega)).mono ?_; rintro e w3 ⟨A_w3, c_w3, rfl, hW_w3, hat_w3, hk_w3⟩; have hb_w3 := hk_w3.below; refine have_then (P := w3.heap[w.heap.size]? = some (.cells #[.int .i64 c.sets, .int .i64 c.ways, .int .i64 c.doms, .int .i64 c.pad, .int .i64 c.quantum, .slice a0 c.slots.length n0, .slice a1 c.owners.length n1, .slice a2 c.chans.length n2, .slice (some ⟨b, o, none⟩) c.tasks.length n3] 63)) ?_ (fun a_w3 => ?_); (focus (refine (hk_w3.block _ ?_ ?_ ?_).trans ?_; (first | omega | (simp <;> omega)); (first | omega | (simp <;> omega)); (intro e; have hlt := own_lt hW_w2.own _ e; omega); (repeat (first | with_reducible exact heap_set2 (by with_reducible assumption) | with_reducible exact heap_set2 (heapAt _ _ _ rfl) | with_reducible exact heap_set1 (by with_reducible assumption) | with_reducible exact heap_set1 (heapAt _ _ _ rfl) | with_reducible assumption | (with_reducible refine heapAt _ _ _ ?_; first | rfl | (first | omega | (simp <;> omega))) | (with_reducible refine heap_drew ?_) | (with_reducible refine heap_drewN ?_) | (with_reducible refine (heap_alloc_old _ _ ?_).trans ?_; (first | omega | (simp <;> omega))) | (with_reducible refine heap_set_far ?_ ?_; rotate_left; (first | omega | (simp <;> omega))))); done)); obtain ⟨ca_w3, fa_w3, za_w3⟩ := blk a_w3; refine have_then (P := Below w.heap.size w w3) ?_ (fun h_w3 => ?_); (focus ((repeat (first | with_reducible exact Below.refl _ _ | with_reducible assumption | (with_reducible refine Below.drew ?_) | (with_reducible refine Below.alloc ?_ ?_ _; rotate_left; (first | omega | (simp <;> omega))) | (with_reducible refine Below.setCell ?_ ?_ _; rotate_left; (first | omega | (simp <;> omega))) | (with_reducible refine below_drewN ?_ _) | (refine Below.trans ?_ (Below.mono (by with_reducible assumption) (by first | omega | (simp <;> omega)))))); done)); have s_w3 := Below.size h_w3; have t_w3 := Below.size hb_w3; (try simp at t_w3))
              rw [E.out] at hW_w3
              go_wp2_with fail
              go_roundw
              case rel =>
                refine ⟨i + 1, A_w3, c_w3, by omega, by go_num, ?_, a_w3, h_w3, by omega⟩
                rw [show 7 + 3 * c.slots.length + 1 + c.owners.length + 1 + 3 * c.chans.length + 1 + 7 * (i + 1) = 7 + 3 * c.slots.length + 1 + c.owners.length + 1 + 3 * c.chans.length + 1 + 7 * i + 1 + 2 * 3 by omega]
                exact hW_w3
              case measure => simp [intOf]; omega
            · obtain rfl : i = c.tasks.length := by omega
              rw [List.take_length] at hW
              have hcv := conv_bytes (bs := encB c) wr (show wr.ownsRow _ _ _ _ _ (u8s (encB c)) from hW.own) (by omega)
              obtain ⟨cg, fg, zg⟩ := blk hW.blk
              go_wp2_with fail
              refine bodyPost_ret (v := .tuple #[.string (strOf (encB c)), .int .i64 0]) (by simp [results, Try.results39, go_sem, *]) rfl ?_
              exact ⟨rfl, hbr⟩
end Go.Proofs.Ytinlmkhlgclbfaa
