/- ConfB -/
import Derived.Test.YtinlmkhlgclbfabWwA08
import Derived.Test.YtinlmkhlgclbfabWwA19
import Derived.Test.YtinlmkhlgclbfabWwA39
namespace Go.Proofs.Ytinlmkhlgclbfab
open Go.RowKit
set_option maxRecDepth 100000
set_option maxHeartbeats 1000000

theorem configChannels1 (x y : TChan) (g : Nat) (w : World) (hg : w.heap[g]? = some (.cells #[.int .i64 x.src, .int .i64 x.dst, .int .i64 x.size] 101)) :
    Calls Try.prog 125 #[.agg #[.int .i64 y.src, .int .i64 y.dst, .int .i64 y.size], .pointer (some ⟨g, 0, none⟩)] w fun e w' => e = .returned (.bool (y.src == x.src && y.dst == x.dst)) ∧ Below w.heap.size w w' := by
  obtain ⟨cp, fp, zp⟩ := blk hg
  go_enter Try.func125, Try.ntmps125
  go_wp2
  all_goals go_ret
  all_goals exact ⟨ret_bool (by simp_all), byB⟩
theorem enters_channels1 : Enters Try.prog 125 := fun _ _ => by kernel_rfl

theorem configChannels (c : TCfg) (S : TCfgS) (h1 : 1 ≤ c.doms) (h4 : c.doms ≤ 4) (B : Nat) (w : World) (hB : B ≤ w.heap.size) (hs : TCfg.At (Low B) w c S) :
    Calls Try.prog 89 #[.agg #[.int .i64 c.sets, .int .i64 c.ways, .int .i64 c.doms, .int .i64 c.pad, .int .i64 c.quantum, .slice S.a0 c.slots.length S.n0, .slice S.a1 c.owners.length S.n1, .slice S.a2 c.chans.length S.n2, .slice S.a3 c.tasks.length S.n3]] w fun e w' => e = .returned (.int .i64 (chansErr c)) ∧ Below w.heap.size w w' := by
  obtain ⟨m0, m1, m2, m3⟩ := cfg_len hs
  have RH := Lib.hid (fun i hi (hq : ∀ j, j < i → chanErr c.doms c.chans j = 0) (h : chanErr c.doms c.chans i ≠ 0) => show chansErr c = chanErr c.doms c.chans i from firstE_hit hi hq h)
  have RN := Lib.hid (fun (hq : ∀ j, j < c.chans.length → chanErr c.doms c.chans j = 0) => show chansErr c = 0 from firstE_none hq)
  have HD := Lib.hid (fun S d W => configIsDomain c S d h1 h4 W)
  (obtain ⟨a0, n0, a1, n1, a2, n2, a3, n3⟩ := S; obtain ⟨hs0, hs1, hs2, hs3⟩ := hs; dsimp only at hs0 hs1 hs2 hs3 ⊢)
  have hcap := hs2.cap
  go_enter Try.func89, Try.ntmps89
  go_wp2
  go_loopw [8] (fun iv wr => ∃ i : Nat, i ≤ c.chans.length ∧ iv = .int .i64 i ∧ Hid (∀ j, j < i → chanErr c.doms c.chans j = 0) ∧ wr.heap[w.heap.size]? = some (.cells #[.int .i64 c.sets, .int .i64 c.ways, .int .i64 c.doms, .int .i64 c.pad, .int .i64 c.quantum, .slice a0 c.slots.length n0, .slice a1 c.owners.length n1, .slice a2 c.chans.length n2, .slice a3 c.tasks.length n3] 27) ∧ Below w.heap.size w wr) (fun iv _ => c.chans.length - (intOf iv).toNat)
  case atStart => exact ⟨0, Nat.zero_le _, rfl, (fun j hj => by omega), byH, byB⟩
  case round =>
    obtain ⟨i, hi, rfl, hq, hp, hbr⟩ := hrel
    obtain ⟨cp, fp, zp⟩ := blk hp
    have so := hbr.size
    by_cases hlt : i < c.chans.length
    · have hS := hs2.next hB hbr
      obtain ⟨b, o, rfl, hI, hc0, hc1, hc2⟩ := hS.at_chan hlt
      have hbl : b < w.heap.size := Nat.lt_of_lt_of_le hI hB
      have hbr' : b < wr.heap.size := by omega
      have hi0 : (0 : Int) ≤ i := by omega
      have hi1 : (i : Int) < c.chans.length := by omega
      have hi2 : (i : Int) ≤ n2 := by omega
      have htk : (c.chans.take i).length = i := by rw [List.length_take]; omega
      have HT := Lib.hid (fun W (h : Below wr.heap.size wr W) (hg : W.heap[wr.heap.size]? = some (.cells #[.int .i64 (nth c.chans i).src, .int .i64 (nth c.chans i).dst, .int .i64 (nth c.chans i).size] 101)) => by
        have h1 := containsChan (c.chans.take i) (some ⟨b, o, none⟩) n2 125 #[.pointer (some ⟨wr.heap.size, 0, none⟩)] (fun j => sameChan c.chans i j) B W (Nat.le_trans (Nat.le_trans hB so) h.size) ((hS.next (Nat.le_trans hB so) h).take i) enters_channels1
          (fun j hj W' hb => by
            rw [htk] at hj
            rw [nth_take hj]
            exact configChannels1 (nth c.chans i) (nth c.chans j) wr.heap.size W' ((hb.block _ (by obtain ⟨_, _, z⟩ := blk hg; exact z)).trans hg))
        rw [htk] at h1
        exact h1)
      clear hS htk
      cases b1 : isDom c.doms (nth c.chans i).src
      · have R := Lib.hid (show chanErr c.doms c.chans i = 5 by unfold chanErr; simp [b1])
        have R := Lib.hid ((RH.out i hlt hq.out (by rw [R.out]; decide)).trans R.out)
        go_wp2_with (go_at_call 91; refine (HD.out ⟨_, _, _, _, _, _, _, _⟩ _ _).mono ?_; rintro e w1 ⟨rfl, hb1⟩)
        go_ret
        exact ⟨ret_int R.out.symm, byB⟩
      cases b2 : isDom c.doms (nth c.chans i).dst
      · have R := Lib.hid (show chanErr c.doms c.chans i = 5 by unfold chanErr; simp [b2])
        have R := Lib.hid ((RH.out i hlt hq.out (by rw [R.out]; decide)).trans R.out)
        go_wp2_with fail
        (go_at_call 91; refine (HD.out ⟨_, _, _, _, _, _, _, _⟩ _ _).mono ?_; rintro e w1 ⟨rfl, hb_w1⟩; refine have_then (P := w1.heap[wr.heap.size]? = some (.cells #[.int .i64 (nth c.chans i).src, .int .i64 (nth c.chans i).dst, .int .i64 (nth c.chans i).size] 101)) ((hb_w1.block _ byS).trans byH) (fun x_w1 => ?_); obtain ⟨cx_w1, fx_w1, zx_w1⟩ := blk x_w1; refine have_then (P := w1.heap[w.heap.size]? = some (.cells #[.int .i64 c.sets, .int .i64 c.ways, .int .i64 c.doms, .int .i64 c.pad, .int .i64 c.quantum, .slice a0 c.slots.length n0, .slice a1 c.owners.length n1, .slice (some ⟨b, o, none⟩) c.chans.length n2, .slice a3 c.tasks.length n3] 27)) ((hb_w1.block _ byS).trans byH) (fun p_w1 => ?_); obtain ⟨cp_w1, fp_w1, zp_w1⟩ := blk p_w1; refine have_then (P := Below w.heap.size w w1) byB (fun h_w1 => ?_); have s_w1 := Below.size h_w1; have t_w1 := Below.size hb_w1; (try simp at t_w1); revert hb_w1; intro hb_w1)
        go_wp2_with (go_at_call 91; refine (HD.out ⟨_, _, _, _, _, _, _, _⟩ _ _).mono ?_; rintro e w2 ⟨rfl, hb2⟩)
        go_ret
        exact ⟨ret_int R.out.symm, byB⟩
      by_cases e3 : (nth c.chans i).src = (nth c.chans i).dst
      · have R := Lib.hid (show chanErr c.doms c.chans i = 1 by unfold chanErr; rw [if_neg (by simp [b1, b2]), if_pos e3])
        have R := Lib.hid ((RH.out i hlt hq.out (by rw [R.out]; decide)).trans R.out)
        have b3 : ((nth c.chans i).src == (nth c.chans i).dst) = true := by simp [e3]
        clear e3
        go_wp2_with fail
        (go_at_call 91; refine (HD.out ⟨_, _, _, _, _, _, _, _⟩ _ _).mono ?_; rintro e w1 ⟨rfl, hb_w1⟩; refine have_then (P := w1.heap[wr.heap.size]? = some (.cells #[.int .i64 (nth c.chans i).src, .int .i64 (nth c.chans i).dst, .int .i64 (nth c.chans i).size] 101)) ((hb_w1.block _ byS).trans byH) (fun x_w1 => ?_); obtain ⟨cx_w1, fx_w1, zx_w1⟩ := blk x_w1; refine have_then (P := w1.heap[w.heap.size]? = some (.cells #[.int .i64 c.sets, .int .i64 c.ways, .int .i64 c.doms, .int .i64 c.pad, .int .i64 c.quantum, .slice a0 c.slots.length n0, .slice a1 c.owners.length n1, .slice (some ⟨b, o, none⟩) c.chans.length n2, .slice a3 c.tasks.length n3] 27)) ((hb_w1.block _ byS).trans byH) (fun p_w1 => ?_); obtain ⟨cp_w1, fp_w1, zp_w1⟩ := blk p_w1; refine have_then (P := Below w.heap.size w w1) byB (fun h_w1 => ?_); have s_w1 := Below.size h_w1; have t_w1 := Below.size hb_w1; (try simp at t_w1); revert hb_w1; intro hb_w1)
        go_wp2_with fail
        (go_at_call 91; refine (HD.out ⟨_, _, _, _, _, _, _, _⟩ _ _).mono ?_; rintro e w2 ⟨rfl, hb_w2⟩; refine have_then (P := w2.heap[wr.heap.size]? = some (.cells #[.int .i64 (nth c.chans i).src, .int .i64 (nth c.chans i).dst, .int .i64 (nth c.chans i).size] 101)) ((hb_w2.block _ byS).trans byH) (fun x_w2 => ?_); obtain ⟨cx_w2, fx_w2, zx_w2⟩ := blk x_w2; refine have_then (P := w2.heap[w.heap.size]? = some (.cells #[.int .i64 c.sets, .int .i64 c.ways, .int .i64 c.doms, .int .i64 c.pad, .int .i64 c.quantum, .slice a0 c.slots.length n0, .slice a1 c.owners.length n1, .slice (some ⟨b, o, none⟩) c.chans.length n2, .slice a3 c.tasks.length n3] 27)) ((hb_w2.block _ byS).trans byH) (fun p_w2 => ?_); obtain ⟨cp_w2, fp_w2, zp_w2⟩ := blk p_w2; refine have_then (P := Below w.heap.size w w2) byB (fun h_w2 => ?_); have s_w2 := Below.size h_w2; have t_w2 := Below.size hb_w2; (try simp at t_w2); revert hb_w2; intro hb_w2; clear x_w1 cx_w1 fx_w1 p_w1 cp_w1 fp_w1)
        go_wp2_with fail
        go_ret
        exact ⟨ret_int R.out.symm, byB⟩
      have b3 : ((nth c.chans i).src == (nth c.chans i).dst) = false := by simp [e3]
      cases b4 : inB 1 (nth c.chans i).size 4
      · have R := Lib.hid (show chanErr c.doms c.chans i = 3 by unfold chanErr; rw [if_neg (by simp [b1, b2]), if_neg e3, if_pos (by simp [b4])])
        have R := Lib.hid ((RH.out i hlt hq.out (by rw [R.out]; decide)).trans R.out)
        clear e3
        go_wp2_with fail
        (go_at_call 91; refine (HD.out ⟨_, _, _, _, _, _, _, _⟩ _ _).mono ?_; rintro e w1 ⟨rfl, hb_w1⟩; refine have_then (P := w1.heap[wr.heap.size]? = some (.cells #[.int .i64 (nth c.chans i).src, .int .i64 (nth c.chans i).dst, .int .i64 (nth c.chans i).size] 101)) ((hb_w1.block _ byS).trans byH) (fun x_w1 => ?_); obtain ⟨cx_w1, fx_w1, zx_w1⟩ := blk x_w1; refine have_then (P := w1.heap[w.heap.size]? = some (.cells #[.int .i64 c.sets, .int .i64 c.ways, .int .i64 c.doms, .int .i64 c.pad, .int .i64 c.quantum, .slice a0 c.slots.length n0, .slice a1 c.owners.length n1, .slice (some ⟨b, o, none⟩) c.chans.length n2, .slice a3 c.tasks.length n3] 27)) ((hb_w1.block _ byS).trans byH) (fun p_w1 => ?_); obtain ⟨cp_w1, fp_w1, zp_w1⟩ := blk p_w1; refine have_then (P := Below w.heap.size w w1) byB (fun h_w1 => ?_); have s_w1 := Below.size h_w1; have t_w1 := Below.size hb_w1; (try simp at t_w1); revert hb_w1; intro hb_w1)
        go_wp2_with fail
        (go_at_call 91; refine (HD.out ⟨_, _, _, _, _, _, _, _⟩ _ _).mono ?_; rintro e w2 ⟨rfl, hb_w2⟩; refine have_then (P := w2.heap[wr.heap.size]? = some (.cells #[.int .i64 (nth c.chans i).src, .int .i64 (nth c.chans i).dst, .int .i64 (nth c.chans i).size] 101)) ((hb_w2.block _ byS).trans byH) (fun x_w2 => ?_); obtain ⟨cx_w2, fx_w2, zx_w2⟩ := blk x_w2; refine have_then (P := w2.heap[w.heap.size]? = some (.cells #[.int .i64 c.sets, .int .i64 c.ways, .int .i64 c.doms, .int .i64 c.pad, .int .i64 c.quantum, .slice a0 c.slots.length n0, .slice a1 c.owners.length n1, .slice (some ⟨b, o, none⟩) c.chans.length n2, .slice a3 c.tasks.length n3] 27)) ((hb_w2.block _ byS).trans byH) (fun p_w2 => ?_); obtain ⟨cp_w2, fp_w2, zp_w2⟩ := blk p_w2; refine have_then (P := Below w.heap.size w w2) byB (fun h_w2 => ?_); have s_w2 := Below.size h_w2; have t_w2 := Below.size hb_w2; (try simp at t_w2); revert hb_w2; intro hb_w2; clear x_w1 cx_w1 fx_w1 p_w1 cp_w1 fp_w1)
        go_wp2_with (go_at_call 121; refine (configWithin _ _ _ _).mono ?_; rintro e w' ⟨rfl, rfl⟩)
        go_ret
        exact ⟨ret_int R.out.symm, byB⟩
      have R0 : chanErr c.doms c.chans i = if anyI i (sameChan c.chans i) then 6 else 0 := by unfold chanErr; rw [if_neg (by simp [b1, b2]), if_neg e3, if_neg (by simp [b4])]
      cases b5 : anyI i (sameChan c.chans i)
      all_goals
        rw [b5] at HT
        rw [b5] at R0
        have R := Lib.hid R0
        have hqi := Lib.hid (fun (h : chanErr c.doms c.chans i ≠ 0) => RH.out i hlt hq.out h)
        clear e3 b5 R0
        go_wp2_with fail
        (go_at_call 91; refine (HD.out ⟨_, _, _, _, _, _, _, _⟩ _ _).mono ?_; rintro e w1 ⟨rfl, hb_w1⟩; refine have_then (P := w1.heap[wr.heap.size]? = some (.cells #[.int .i64 (nth c.chans i).src, .int .i64 (nth c.chans i).dst, .int .i64 (nth c.chans i).size] 101)) ((hb_w1.block _ byS).trans byH) (fun x_w1 => ?_); obtain ⟨cx_w1, fx_w1, zx_w1⟩ := blk x_w1; refine have_then (P := w1.heap[w.heap.size]? = some (.cells #[.int .i64 c.sets, .int .i64 c.ways, .int .i64 c.doms, .int .i64 c.pad, .int .i64 c.quantum, .slice a0 c.slots.length n0, .slice a1 c.owners.length n1, .slice (some ⟨b, o, none⟩) c.chans.length n2, .slice a3 c.tasks.length n3] 27)) ((hb_w1.block _ byS).trans byH) (fun p_w1 => ?_); obtain ⟨cp_w1, fp_w1, zp_w1⟩ := blk p_w1; refine have_then (P := Below w.heap.size w w1) byB (fun h_w1 => ?_); have s_w1 := Below.size h_w1; have t_w1 := Below.size hb_w1; (try simp at t_w1); revert hb_w1; intro hb_w1)
        go_wp2_with fail
        (go_at_call 91; refine (HD.out ⟨_, _, _, _, _, _, _, _⟩ _ _).mono ?_; rintro e w2 ⟨rfl, hb_w2⟩; refine have_then (P := w2.heap[wr.heap.size]? = some (.cells #[.int .i64 (nth c.chans i).src, .int .i64 (nth c.chans i).dst, .int .i64 (nth c.chans i).size] 101)) ((hb_w2.block _ byS).trans byH) (fun x_w2 => ?_); obtain ⟨cx_w2, fx_w2, zx_w2⟩ := blk x_w2; refine have_then (P := w2.heap[w.heap.size]? = some (.cells #[.int .i64 c.sets, .int .i64 c.ways, .int .i64 c.doms, .int .i64 c.pad, .int .i64 c.quantum, .slice a0 c.slots.length n0, .slice a1 c.owners.length n1, .slice (some ⟨b, o, none⟩) c.chans.length n2, .slice a3 c.tasks.length n3] 27)) ((hb_w2.block _ byS).trans byH) (fun p_w2 => ?_); obtain ⟨cp_w2, fp_w2, zp_w2⟩ := blk p_w2; refine have_then (P := Below w.heap.size w w2) byB (fun h_w2 => ?_); have s_w2 := Below.size h_w2; have t_w2 := Below.size hb_w2; (try simp at t_w2); revert hb_w2; intro hb_w2; clear x_w1 cx_w1 fx_w1 p_w1 cp_w1 fp_w1)
        go_wp2_with (go_at_call 121; refine (configWithin _ _ _ _).mono ?_; rintro e w' ⟨rfl, rfl⟩)
        (go_at_call 124; refine (HT.out _ byB byH).mono ?_; rintro e w3 ⟨rfl, hb_w3⟩; refine have_then (P := w3.heap[wr.heap.size]? = some (.cells #[.int .i64 (nth c.chans i).src, .int .i64 (nth c.chans i).dst, .int .i64 (nth c.chans i).size] 101)) ((hb_w3.block _ byS).trans byH) (fun x_w3 => ?_); obtain ⟨cx_w3, fx_w3, zx_w3⟩ := blk x_w3; refine have_then (P := w3.heap[w.heap.size]? = some (.cells #[.int .i64 c.sets, .int .i64 c.ways, .int .i64 c.doms, .int .i64 c.pad, .int .i64 c.quantum, .slice a0 c.slots.length n0, .slice a1 c.owners.length n1, .slice (some ⟨b, o, none⟩) c.chans.length n2, .slice a3 c.tasks.length n3] 27)) ((hb_w3.block _ byS).trans byH) (fun p_w3 => ?_); obtain ⟨cp_w3, fp_w3, zp_w3⟩ := blk p_w3; refine have_then (P := Below w.heap.size w w3) byB (fun h_w3 => ?_); have s_w3 := Below.size h_w3; have t_w3 := Below.size hb_w3; (try simp at t_w3); revert hb_w3; intro hb_w3; clear x_w2 cx_w2 fx_w2 p_w2 cp_w2 fp_w2)
        go_wp2_with fail
      · go_roundw
        case rel => exact ⟨i + 1, by omega, by go_num, (fun j hj => by
          by_cases e : j = i
          · subst e; exact R.out
          · exact hq.out j (by omega)), byH, byB⟩
        case measure => simp [intOf]; omega
      · go_ret
        exact ⟨ret_int ((hqi.out (by rw [R.out]; decide)).trans R.out).symm, byB⟩
    · obtain rfl : i = c.chans.length := by omega
      have R := Lib.hid (RN.out hq.out)
      go_wp2
      go_ret
      exact ⟨ret_int R.out.symm, hbr⟩

theorem configCheck (c : TCfg) (S : TCfgS) (B : Nat) (w : World) (hB : B ≤ w.heap.size) (hs : TCfg.At (Low B) w c S) :
    Calls Try.prog 45 #[.agg #[.int .i64 c.sets, .int .i64 c.ways, .int .i64 c.doms, .int .i64 c.pad, .int .i64 c.quantum, .slice S.a0 c.slots.length S.n0, .slice S.a1 c.owners.length S.n1, .slice S.a2 c.chans.length S.n2, .slice S.a3 c.tasks.length S.n3]] w fun e w' => e = .returned (.int .i64 (checkConfig c)) ∧ Below w.heap.size w w' := by
  have H1 := Lib.hid (fun W (h : Below w.heap.size w W) => configHead c S _ W (hs.next hB h))
  cases e1 : decide (headErr c = 0)
  · have e1 : headErr c ≠ 0 := by simpa using e1
    have R := Lib.hid (show checkConfig c = headErr c by unfold checkConfig thenE; rw [if_neg e1])
    have b1 : (headErr c == 0) = false := by simp [e1]
    clear hs e1
    generalize headErr c = HE at *
    go_enter Try.func45, Try.ntmps45
    go_wp2_with (go_at_call 86; refine (H1.out _ byB).mono ?_; rintro e w1 ⟨rfl, hb1⟩)
    go_ret
    exact ⟨ret_int R.out.symm, byB⟩
  · have e1 : headErr c = 0 := by simpa using e1
    obtain ⟨_, _, ⟨h1, h4⟩, _⟩ := head_ok e1
    have H2 := Lib.hid (fun W (h : Below w.heap.size w W) => configSlots c S h1 h4 B W (Nat.le_trans hB h.size) (hs.next hB h))
    have H3 := Lib.hid (fun W (h : Below w.heap.size w W) => configOwners c S h1 h4 B W (Nat.le_trans hB h.size) (hs.next hB h))
    have H4 := Lib.hid (fun W (h : Below w.heap.size w W) => configChannels c S h1 h4 B W (Nat.le_trans hB h.size) (hs.next hB h))
    have H5 := Lib.hid (fun W (h : Below w.heap.size w W) => configTasks c S h1 h4 B W (Nat.le_trans hB h.size) (hs.next hB h))
    have R := show checkConfig c = thenE (slotsErr c) (thenE (ownersErr c) (thenE (chansErr c) (tasksErr c))) by unfold checkConfig; rw [e1]; rfl
    rw [R]
    rw [e1] at H1
    clear hs e1 R
    have hor : (slotsErr c ≠ 0 ∧ thenE (slotsErr c) (thenE (ownersErr c) (thenE (chansErr c) (tasksErr c))) = slotsErr c) ∨ (slotsErr c = 0 ∧ ownersErr c ≠ 0 ∧ thenE (slotsErr c) (thenE (ownersErr c) (thenE (chansErr c) (tasksErr c))) = ownersErr c) ∨
      (slotsErr c = 0 ∧ ownersErr c = 0 ∧ chansErr c ≠ 0 ∧ thenE (slotsErr c) (thenE (ownersErr c) (thenE (chansErr c) (tasksErr c))) = chansErr c) ∨ (slotsErr c = 0 ∧ ownersErr c = 0 ∧ chansErr c = 0 ∧ thenE (slotsErr c) (thenE (ownersErr c) (thenE (chansErr c) (tasksErr c))) = tasksErr c) := by
      unfold thenE
      by_cases e2 : slotsErr c = 0 <;> by_cases e3 : ownersErr c = 0 <;> by_cases e4 : chansErr c = 0 <;> simp [e2, e3, e4]
    generalize slotsErr c = E1 at *
    generalize ownersErr c = E2 at *
    generalize chansErr c = E3 at *
    generalize tasksErr c = E4 at *
    rcases hor with ⟨x1, x2⟩ | ⟨rfl, x1, x2⟩ | ⟨rfl, rfl, x1, x2⟩ | ⟨rfl, rfl, rfl, x2⟩
    · have b1 : (E1 == 0) = false := by simp [x1]
      rw [x2]
      clear x1 x2
      go_enter Try.func45, Try.ntmps45
      go_wp2_with fail
      (go_at_call 86; refine (H1.out _ byB).mono ?_; rintro e w1 ⟨rfl, hb_w1⟩; refine have_then (P := w1.heap[w.heap.size]? = some (.cells #[.int .i64 c.sets, .int .i64 c.ways, .int .i64 c.doms, .int .i64 c.pad, .int .i64 c.quantum, .slice S.a0 c.slots.length S.n0, .slice S.a1 c.owners.length S.n1, .slice S.a2 c.chans.length S.n2, .slice S.a3 c.tasks.length S.n3] 27)) ((hb_w1.block _ byS).trans byH) (fun a_w1 => ?_); obtain ⟨ca_w1, fa_w1, za_w1⟩ := blk a_w1; refine have_then (P := Below w.heap.size w w1) byB (fun h_w1 => ?_); have s_w1 := Below.size h_w1; have t_w1 := Below.size hb_w1; (try simp at t_w1); revert hb_w1; intro hb_w1)
      go_wp2_with fail
      (go_at_call 87; refine (H2.out _ byB).mono ?_; rintro e w2 ⟨rfl, hb_w2⟩; refine have_then (P := w2.heap[w.heap.size]? = some (.cells #[.int .i64 c.sets, .int .i64 c.ways, .int .i64 c.doms, .int .i64 c.pad, .int .i64 c.quantum, .slice S.a0 c.slots.length S.n0, .slice S.a1 c.owners.length S.n1, .slice S.a2 c.chans.length S.n2, .slice S.a3 c.tasks.length S.n3] 27)) ((hb_w2.block _ byS).trans byH) (fun a_w2 => ?_); obtain ⟨ca_w2, fa_w2, za_w2⟩ := blk a_w2; refine have_then (P := Below w.heap.size w w2) byB (fun h_w2 => ?_); have s_w2 := Below.size h_w2; have t_w2 := Below.size hb_w2; (try simp at t_w2); revert hb_w2; intro hb_w2; clear a_w1 ca_w1 fa_w1)
      go_wp2_with fail
      go_ret
      exact ⟨rfl, byB⟩
    · have b1 : (E2 == 0) = false := by simp [x1]
      rw [x2]
      clear x1 x2
      go_enter Try.func45, Try.ntmps45
      go_wp2_with fail
      (go_at_call 86; refine (H1.out _ byB).mono ?_; rintro e w1 ⟨rfl, hb_w1⟩; refine have_then (P := w1.heap[w.heap.size]? = some (.cells #[.int .i64 c.sets, .int .i64 c.ways, .int .i64 c.doms, .int .i64 c.pad, .int .i64 c.quantum, .slice S.a0 c.slots.length S.n0, .slice S.a1 c.owners.length S.n1, .slice S.a2 c.chans.length S.n2, .slice S.a3 c.tasks.length S.n3] 27)) ((hb_w1.block _ byS).trans byH) (fun a_w1 => ?_); obtain ⟨ca_w1, fa_w1, za_w1⟩ := blk a_w1; refine have_then (P := Below w.heap.size w w1) byB (fun h_w1 => ?_); have s_w1 := Below.size h_w1; have t_w1 := Below.size hb_w1; (try simp at t_w1); revert hb_w1; intro hb_w1)
      go_wp2_with fail
      (go_at_call 87; refine (H2.out _ byB).mono ?_; rintro e w2 ⟨rfl, hb_w2⟩; refine have_then (P := w2.heap[w.heap.size]? = some (.cells #[.int .i64 c.sets, .int .i64 c.ways, .int .i64 c.doms, .int .i64 c.pad, .int .i64 c.quantum, .slice S.a0 c.slots.length S.n0, .slice S.a1 c.owners.length S.n1, .slice S.a2 c.chans.length S.n2, .slice S.a3 c.tasks.length S.n3] 27)) ((hb_w2.block _ byS).trans byH) (fun a_w2 => ?_); obtain ⟨ca_w2, fa_w2, za_w2⟩ := blk a_w2; refine have_then (P := Below w.heap.size w w2) byB (fun h_w2 => ?_); have s_w2 := Below.size h_w2; have t_w2 := Below.size hb_w2; (try simp at t_w2); revert hb_w2; intro hb_w2; clear a_w1 ca_w1 fa_w1)
      go_wp2_with fail
      (go_at_call 88; refine (H3.out _ byB).mono ?_; rintro e w3 ⟨rfl, hb_w3⟩; refine have_then (P := w3.heap[w.heap.size]? = some (.cells #[.int .i64 c.sets, .int .i64 c.ways, .int .i64 c.doms, .int .i64 c.pad, .int .i64 c.quantum, .slice S.a0 c.slots.length S.n0, .slice S.a1 c.owners.length S.n1, .slice S.a2 c.chans.length S.n2, .slice S.a3 c.tasks.length S.n3] 27)) ((hb_w3.block _ byS).trans byH) (fun a_w3 => ?_); obtain ⟨ca_w3, fa_w3, za_w3⟩ := blk a_w3; refine have_then (P := Below w.heap.size w w3) byB (fun h_w3 => ?_); have s_w3 := Below.size h_w3; have t_w3 := Below.size hb_w3; (try simp at t_w3); revert hb_w3; intro hb_w3; clear a_w2 ca_w2 fa_w2)
      go_wp2_with fail
      go_ret
      exact ⟨rfl, byB⟩
    · have b1 : (E3 == 0) = false := by simp [x1]
      rw [x2]
      clear x1 x2
      go_enter Try.func45, Try.ntmps45
      go_wp2_with fail
      (go_at_call 86; refine (H1.out _ byB).mono ?_; rintro e w1 ⟨rfl, hb_w1⟩; refine have_then (P := w1.heap[w.heap.size]? = some (.cells #[.int .i64 c.sets, .int .i64 c.ways, .int .i64 c.doms, .int .i64 c.pad, .int .i64 c.quantum, .slice S.a0 c.slots.length S.n0, .slice S.a1 c.owners.length S.n1, .slice S.a2 c.chans.length S.n2, .slice S.a3 c.tasks.length S.n3] 27)) ((hb_w1.block _ byS).trans byH) (fun a_w1 => ?_); obtain ⟨ca_w1, fa_w1, za_w1⟩ := blk a_w1; refine have_then (P := Below w.heap.size w w1) byB (fun h_w1 => ?_); have s_w1 := Below.size h_w1; have t_w1 := Below.size hb_w1; (try simp at t_w1); revert hb_w1; intro hb_w1)
      go_wp2_with fail
      (go_at_call 87; refine (H2.out _ byB).mono ?_; rintro e w2 ⟨rfl, hb_w2⟩; refine have_then (P := w2.heap[w.heap.size]? = some (.cells #[.int .i64 c.sets, .int .i64 c.ways, .int .i64 c.doms, .int .i64 c.pad, .int .i64 c.quantum, .slice S.a0 c.slots.length S.n0, .slice S.a1 c.owners.length S.n1, .slice S.a2 c.chans.length S.n2, .slice S.a3 c.tasks.length S.n3] 27)) ((hb_w2.block _ byS).trans byH) (fun a_w2 => ?_); obtain ⟨ca_w2, fa_w2, za_w2⟩ := blk a_w2; refine have_then (P := Below w.heap.size w w2) byB (fun h_w2 => ?_); have s_w2 := Below.size h_w2; have t_w2 := Below.size hb_w2; (try simp at t_w2); revert hb_w2; intro hb_w2; clear a_w1 ca_w1 fa_w1)
      go_wp2_with fail
      (go_at_call 88; refine (H3.out _ byB).mono ?_; rintro e w3 ⟨rfl, hb_w3⟩; refine have_then (P := w3.heap[w.heap.size]? = some (.cells #[.int .i64 c.sets, .int .i64 c.ways, .int .i64 c.doms, .int .i64 c.pad, .int .i64 c.quantum, .slice S.a0 c.slots.length S.n0, .slice S.a1 c.owners.length S.n1, .slice S.a2 c.chans.length S.n2, .slice S.a3 c.tasks.length S.n3] 27)) ((hb_w3.block _ byS).trans byH) (fun a_w3 => ?_); obtain ⟨ca_w3, fa_w3, za_w3⟩ := blk a_w3; refine have_then (P := Below w.heap.size w w3) byB (fun h_w3 => ?_); have s_w3 := Below.size h_w3; have t_w3 := Below.size hb_w3; (try simp at t_w3); revert hb_w3; intro hb_w3; clear a_w2 ca_w2 fa_w2)
      go_wp2_with fail
      (go_at_call 89; refine (H4.out _ byB).mono ?_; rintro e w4 ⟨rfl, hb_w4⟩; refine have_then (P := w4.heap[w.heap.size]? = some (.cells #[.int .i64 c.sets, .int .i64 c.ways, .int .i64 c.doms, .int .i64 c.pad, .int .i64 c.quantum, .slice S.a0 c.slots.length S.n0, .slice S.a1 c.owners.length S.n1, .slice S.a2 c.chans.length S.n2, .slice S.a3 c.tasks.length S.n3] 27)) ((hb_w4.block _ byS).trans byH) (fun a_w4 => ?_); obtain ⟨ca_w4, fa_w4, za_w4⟩ := blk a_w4; refine have_then (P := Below w.heap.size w w4) byB (fun h_w4 => ?_); have s_w4 := Below.size h_w4; have t_w4 := Below.size hb_w4; (try simp at t_w4); revert hb_w4; intro hb_w4; clear a_w3 ca_w3 fa_w3)
      go_wp2_with fail
      go_ret
      exact ⟨rfl, byB⟩
    · rw [x2]
      clear x2
      go_enter Try.func45, Try.ntmps45
      go_wp2_with fail
      (go_at_call 86; refine (H1.out _ byB).mono ?_; rintro e w1 ⟨rfl, hb_w1⟩; refine have_then (P := w1.heap[w.heap.size]? = some (.cells #[.int .i64 c.sets, .int .i64 c.ways, .int .i64 c.doms, .int .i64 c.pad, .int .i64 c.quantum, .slice S.a0 c.slots.length S.n0, .slice S.a1 c.owners.length S.n1, .slice S.a2 c.chans.length S.n2, .slice S.a3 c.tasks.length S.n3] 27)) ((hb_w1.block _ byS).trans byH) (fun a_w1 => ?_); obtain ⟨ca_w1, fa_w1, za_w1⟩ := blk a_w1; refine have_then (P := Below w.heap.size w w1) byB (fun h_w1 => ?_); have s_w1 := Below.size h_w1; have t_w1 := Below.size hb_w1; (try simp at t_w1); revert hb_w1; intro hb_w1)
      go_wp2_with fail
      (go_at_call 87; refine (H2.out _ byB).mono ?_; rintro e w2 ⟨rfl, hb_w2⟩; refine have_then (P := w2.heap[w.heap.size]? = some (.cells #[.int .i64 c.sets, .int .i64 c.ways, .int .i64 c.doms, .int .i64 c.pad, .int .i64 c.quantum, .slice S.a0 c.slots.length S.n0, .slice S.a1 c.owners.length S.n1, .slice S.a2 c.chans.length S.n2, .slice S.a3 c.tasks.length S.n3] 27)) ((hb_w2.block _ byS).trans byH) (fun a_w2 => ?_); obtain ⟨ca_w2, fa_w2, za_w2⟩ := blk a_w2; refine have_then (P := Below w.heap.size w w2) byB (fun h_w2 => ?_); have s_w2 := Below.size h_w2; have t_w2 := Below.size hb_w2; (try simp at t_w2); revert hb_w2; intro hb_w2; clear a_w1 ca_w1 fa_w1)
      go_wp2_with fail
      (go_at_call 88; refine (H3.out _ byB).mono ?_; rintro e w3 ⟨rfl, hb_w3⟩; refine have_then (P := w3.heap[w.heap.size]? = some (.cells #[.int .i64 c.sets, .int .i64 c.ways, .int .i64 c.doms, .int .i64 c.pad, .int .i64 c.quantum, .slice S.a0 c.slots.length S.n0, .slice S.a1 c.owners.length S.n1, .slice S.a2 c.chans.length S.n2, .slice S.a3 c.tasks.length S.n3] 27)) ((hb_w3.block _ byS).trans byH) (fun a_w3 => ?_); obtain ⟨ca_w3, fa_w3, za_w3⟩ := blk a_w3; refine have_then (P := Below w.heap.size w w3) byB (fun h_w3 => ?_); have s_w3 := Below.size h_w3; have t_w3 := Below.size hb_w3; (try simp at t_w3); revert hb_w3; intro hb_w3; clear a_w2 ca_w2 fa_w2)
      go_wp2_with fail
      (go_at_call 89; refine (H4.out _ byB).mono ?_; rintro e w4 ⟨rfl, hb_w4⟩; refine have_then (P := w4.heap[w.heap.size]? = some (.cells #[.int .i64 c.sets, .int .i64 c.ways, .int .i64 c.doms, .int .i64 c.pad, .int .i64 c.quantum, .slice S.a0 c.slots.length S.n0, .slice S.a1 c.owners.length S.n1, .slice S.a2 c.chans.length S.n2, .slice S.a3 c.tasks.length S.n3] 27)) ((hb_w4.block _ byS).trans byH) (fun a_w4 => ?_); obtain ⟨ca_w4, fa_w4, za_w4⟩ := blk a_w4; refine have_then (P := Below w.heap.size w w4) byB (fun h_w4 => ?_); have s_w4 := Below.size h_w4; have t_w4 := Below.size hb_w4; (try simp at t_w4); revert hb_w4; intro hb_w4; clear a_w3 ca_w3 fa_w3)
      go_wp2_with fail
      (go_at_call 90; refine (H5.out _ byB).mono ?_; rintro e w5 ⟨rfl, hb_w5⟩; refine have_then (P := w5.heap[w.heap.size]? = some (.cells #[.int .i64 c.sets, .int .i64 c.ways, .int .i64 c.doms, .int .i64 c.pad, .int .i64 c.quantum, .slice S.a0 c.slots.length S.n0, .slice S.a1 c.owners.length S.n1, .slice S.a2 c.chans.length S.n2, .slice S.a3 c.tasks.length S.n3] 27)) ((hb_w5.block _ byS).trans byH) (fun a_w5 => ?_); obtain ⟨ca_w5, fa_w5, za_w5⟩ := blk a_w5; refine have_then (P := Below w.heap.size w w5) byB (fun h_w5 => ?_); have s_w5 := Below.size h_w5; have t_w5 := Below.size hb_w5; (try simp at t_w5); revert hb_w5; intro hb_w5; clear a_w4 ca_w4 fa_w4)
      go_wp2_with fail
      go_ret
      exact ⟨rfl, byB⟩
end Go.Proofs.Ytinlmkhlgclbfab
