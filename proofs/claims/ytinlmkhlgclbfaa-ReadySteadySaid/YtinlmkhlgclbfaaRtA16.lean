/- CloneWay CacheB -/
import Derived.Test.YtinlmkhlgclbfaaRtA04
import Derived.Test.YtinlmkhlgclbfaaRtA12
import Derived.Test.YtinlmkhlgclbfaaRtA15
section
namespace Go.Proofs.Ytinlmkhlgclbfaa
open Go.RowKit
set_option maxRecDepth 100000
set_option maxHeartbeats 400000

theorem tyWay : TyS Try.prog 54 115 (.agg #[.int .i64 0, .bool false]) 2 16 := ⟨Try.underlying54, info_of (by kernel_rfl), rfl, by decide⟩

theorem cloneWay (xs : List TWay) (A : Option Addr) (c : Nat) (B : Nat) (w : World) (hB : B ≤ w.heap.size) (hs : Sl cWay (Low B) w A c xs) (hb : xs.length * 16 ≤ 140737488355328) :
    Calls Try.prog 107 #[.slice A xs.length c] w (RetRow 115 2 xs.length (xs.flatMap TWay.cells) w) := by
  have hm : xs.length ≤ maxLen := Nat.le_trans hs.cap hs.max
  cases A with
  | none =>
    have h0 : xs = [] := List.eq_nil_of_length_eq_zero (by have := hs.nil rfl; have := hs.cap; omega)
    subst h0
    have hq := fun w => Lib.run_eql_slice_nil (P := Try.prog) w 54 115 none 0 c 0 0 Try.underlying54
    go_enter Try.func107, Try.ntmps107
    go_wp2
    go_ret
    exact ⟨_, _, rfl, World.ownsRow_nil _ _ _ _, Below.refl _ _⟩
  | some ad =>
    have hq := fun w => Lib.run_eql_slice_nil (P := Try.prog) w 54 115 (some ad) xs.length c 0 0 Try.underlying54
    have hsrc1 := Lib.hid ((hs.next hB (w' := w.alloc (.cells #[] 115)) byB).src (f := TWay.cells))
    clear hs
    have ho := World.ownsRow_made w (base := w.heap.size) (e := 115) (size := 2) #[] 0 (Nat.le_refl _) (by unfold maxLen; omega) rfl
    go_enter Try.func107, Try.ntmps107
    go_wp2_with (at_builtin; refine wpList_app rfl (.tmp 5) (.tmp 6) _ rfl w.heap.size tyWay _ 0 [] (by rfl) ho (some ad) xs.length c (xs.flatMap TWay.cells) (by rfl) hsrc1.out (one_way _) ?_ ?_ ?_ ?_; (omega); (omega); (simp); intro A1 c1 w1 hown1 hg1 hat1)
    go_ret
    simp only [Nat.zero_add, List.nil_append] at hown1
    exact ⟨A1, c1, by simp, hown1, grown_below byB (by simp) ho hg1⟩
end Go.Proofs.Ytinlmkhlgclbfaa
end

section
namespace Go.Proofs.Ytinlmkhlgclbfaa
open Go.RowKit
set_option maxRecDepth 100000
set_option maxHeartbeats 400000

def oWay : OCod TWay := .flat 2 TWay.cells (fun _ => rfl)
/-- a cache's sets, owned -/
def OCache (F : Nat → Prop) (w : World) (v : Value) (c : List (List TWay)) : Prop := OSl (OCod.slice 115 oWay) 54 F w v c
theorem tyWays : TyS Try.prog 42 54 (.slice none 0 0) 1 24 := ⟨Try.underlying42, info_of (by kernel_rfl), rfl, by decide⟩
def RetCache (c : List (List TWay)) (w : World) (en : Ending) (w' : World) : Prop := ∃ A n, en = .returned (.agg #[.slice A c.length n]) ∧ OCache (Rng w.heap.size w'.heap.size) w' (.slice A c.length n) c ∧ Below w.heap.size w w'

theorem take_snoc {T : Type} [Inhabited T] {xs : List T} {k : Nat} (h : k < xs.length) : xs.take (k + 1) = xs.take k ++ [nth xs k] := by
  rw [List.take_succ_eq_append_getElem h, nth_eq h]
theorem len_take {T : Type} {xs : List T} {k : Nat} (h : k ≤ xs.length) : (xs.take k).length = k := by rw [List.length_take]; omega

theorem cacheOwn (c : List (List TWay)) (A : Option Addr) (n B : Nat) (w : World) (hB : B ≤ w.heap.size) (hs : Sl cWay.slice (Low B) w A n c) (hl : c.length ≤ 1000000000000) (hl2 : ∀ i, i < c.length → (nth c i).length ≤ 1000000000000) :
    Calls Try.prog 70 #[.agg #[.slice A c.length n]] w (RetCache c w) := by
  go_enter Try.func70, Try.ntmps70
  go_wp2_with fail
  go_loopw [9] (fun iv wr => ∃ (k : Nat) (A1 : Option Addr) (c1 : Nat), k ≤ c.length ∧ iv = .int .i64 k ∧ wr.heap[w.heap.size + 1]? = some (.cells #[.slice none 0 0] 44) ∧ wr.heap[w.heap.size + 2]? = some (.cells #[.slice A1 k c1] 44) ∧
    OCache (Rng (w.heap.size + 3) wr.heap.size) wr (.slice A1 k c1) (c.take k) ∧ Below w.heap.size w wr) (fun iv _ => c.length - (intOf iv).toNat)
  case atStart => exact ⟨0, none, 0, Nat.zero_le _, rfl, byH, byH, OSl.nil _ _ _ _, byB⟩
  case round =>
    obtain ⟨k, A1, c1, hk, rfl, hr, ho, hO, hbw⟩ := hrel
    obtain ⟨cr, fr, zr⟩ := blk hr
    obtain ⟨co, fo, zo⟩ := blk ho
    have hsz := hbw.size
    by_cases hlt : k < c.length
    · obtain ⟨b, o, A', c', rfl, hI, hcell, hin⟩ := (hs.next hB hbw).at_slice hlt
      have hl3 := hl2 k hlt
      have HC := Lib.hid (fun W (h : Below wr.heap.size wr W) => cloneWay (nth c k) A' c' wr.heap.size W h.size ((hin.next (Nat.le_trans hB hsz) h).up (Nat.le_trans hB hsz)) (by omega))
      obtain ⟨ess, G, e1, e2, e3, e4, e5, e6⟩ := hO
      rw [len_take hk] at e1 e2
      have hlo : ∀ b, (Value.slice A1 k c1).ownBlock = some b → w.heap.size + 3 ≤ b := fun b hb => (e3 b hb).1
      have hk0 : (0 : Int) ≤ k := by omega
      have hk1 : (k : Int) < c.length := by omega
      clear hs hin
      go_wp2_with fail
      have hcO : wr.cell? ⟨w.heap.size + 2, 0, none⟩ = some (.slice A1 k c1) := (co 0).trans rfl
      go_region_law
        (first | (go_simp; (go_at_call 107; refine (HC.out _ byB).mono ?_; rintro e w1 ⟨A2, c2, rfl, hown2, hb_w1⟩; refine have_then (P := w1.heap[w.heap.size + 1]? = some (.cells #[.slice none 0 0] 44)) ((hb_w1.block _ byS).trans byH) (fun r_w1 => ?_); obtain ⟨cr_w1, fr_w1, zr_w1⟩ := blk r_w1; refine have_then (P := w1.heap[w.heap.size + 2]? = some (.cells #[.slice A1 k c1] 44)) ((hb_w1.block _ byS).trans byH) (fun o_w1 => ?_); obtain ⟨co_w1, fo_w1, zo_w1⟩ := blk o_w1; refine have_then (P := Below w.heap.size w w1) byB (fun h_w1 => ?_); have s_w1 := Below.size h_w1; have t_w1 := Below.size hb_w1; (try simp at t_w1); revert hb_w1; intro hb_w1); have e2w : w1.ownsRow 0 54 1 (.slice A1 k c1) k ess.flatten := own_keep e2 fun b hb => (show KeepI (Rng (w.heap.size + 3) wr.heap.size) wr w1 from byI) b (e3 b hb); try dsimp only) | (refine step_app ?_ (.tmp 14) (.tmp 17) _ ?_ 0 tyWays (.slice A1 k c1) k ess.flatten ?_ ?_ (some ⟨w1.heap.size, 0, none⟩) 1 1 [.slice A2 (nth c k).length c2] ?_ ?_ (one_one rfl) ?_ ?_ ?_ ?_; rfl; rfl; rfl; exact (by repeat (first | with_reducible exact e2w | (with_reducible refine World.ownsRow.alloc ?_ _) | (with_reducible refine own_drew ?_) | (with_reducible refine own_drewN ?_ _))); rfl; exact (src_new rfl rfl); (first | (unfold maxLen; omega) | (simp only [maxLen]; omega)); (omega); (exact Nat.zero_le _); intro A3 c3 w3 hown3 hg_w3 hat_w3; refine have_then (P := w3.heap[w.heap.size + 1]? = some (.cells #[.slice none 0 0] 44)) ?_ (fun r_w3 => ?_); (focus (refine (hg_w3.block _ ?_ ?_).trans ?_; (first | omega | (simp <;> omega)); (intro e; have hlt := hlo _ e.symm; omega); exact byH; done)); obtain ⟨cr_w3, fr_w3, zr_w3⟩ := blk r_w3; refine have_then (P := w3.heap[w.heap.size + 2]? = some (.cells #[.slice A1 k c1] 44)) ?_ (fun o_w3 => ?_); (focus (refine (hg_w3.block _ ?_ ?_).trans ?_; (first | omega | (simp <;> omega)); (intro e; have hlt := hlo _ e.symm; omega); exact byH; done)); obtain ⟨co_w3, fo_w3, zo_w3⟩ := blk o_w3; refine have_then (P := Below w.heap.size w w3) ?_ (fun h_w3 => ?_); (focus (refine Below.grown ?_ hg_w3 ?_ ?_; (focus (exact byB; done)); (first | exact Nat.le_refl _ | exact Below.size (by assumption) | omega | (simp <;> omega)); (intro kk hkk; have hlt := hlo _ hkk; omega); done)); have s_w3 := Below.size h_w3; have t_w3 := hg_w3.size; (try simp at t_w3)))
      all_goals
        go_wp2_with fail
        go_roundw
        case rel =>
          have hn2 := own_mono (base' := 0) hown2 (Nat.zero_le _)
          refine ⟨k + 1, A3, c3, by omega, by go_num, byH, ?_, ?_, byB⟩
          · have := heap_set_same (i := 0) (u := .slice A3 (k + 1) c3) o_w3
            simpa using this
          · unfold OCache
            rw [take_snoc hlt]
            have hl1 : (c.take k).length = k := len_take hk
            refine osl_step (F := Rng (w.heap.size + 3) wr.heap.size) (Fx := Rng wr.heap.size w1.heap.size) (es := [.slice A2 (nth c k).length c2]) (by rw [hl1]; exact e1) e4 e5 e6 e3 hg_w3 hat_w3 (by rw [hl1]; exact hown3) ⟨_, rfl, osl_flat.2 ⟨(by repeat (first | with_reducible exact hn2 | (with_reducible refine World.ownsRow.alloc ?_ _) | (with_reducible refine own_drew ?_) | (with_reducible refine own_drewN ?_ _))), ?_⟩⟩ byI ?_ ?_ ?_ ?_ ?_
            · intro b hb
              exact World.ownsRow.lt hown2 b hb
            · intro b hb hb'; simp only [Rng] at hb hb'; omega
            · intro b hb; simp only [Rng] at hb; simp; omega
            · intro b hb; simp only [Rng] at hb ⊢; simp; omega
            · intro b hb hb'; simp only [Rng]; simp at hb ⊢; omega
            · exact byI
        case measure => simp [intOf]; omega
    · obtain rfl : k = c.length := by omega
      rw [List.take_length] at hO
      go_wp2_with fail
      refine bodyPost_ret (v := .agg #[.slice A1 c.length c1]) (by simp [results, Try.results70, go_sem, *]) rfl ?_
      refine ⟨A1, c1, rfl, OSl.mono (OSl.keepI hO byI) ?_, byB⟩
      · intro b hb; simp only [Rng] at hb ⊢; simp; omega

theorem nth_replicate {T : Type} [Inhabited T] {n k : Nat} {x : T} (h : k < n) : nth (List.replicate n x) k = x := by
  rw [nth_eq (by simpa using h)]; simp
def emptySet (ways : Nat) : List TWay := List.replicate ways ⟨0, false⟩

theorem cacheEmpty (sets ways : Nat) (w : World) (h1 : sets ≤ 1000000000000) (h2 : ways ≤ 1000000000000) :
    Calls Try.prog 69 #[.int .i64 sets, .int .i64 ways] w (RetCache (emptyCache sets ways) w) := by
  have hmk := make_run tyWay ways (by omega) (by omega)
  have hlen : (emptyCache sets ways).length = sets := by simp [emptyCache]
  have HL := Lib.hid hlen
  clear hlen
  generalize hc : emptyCache sets ways = c at *
  have HC := Lib.hid (show ∀ k, k < sets → nth c k = emptySet ways by intro k hk; rw [← hc]; exact nth_replicate hk)
  clear hc
  go_enter Try.func69, Try.ntmps69
  go_wp2_with fail
  go_loopw [7] (fun iv wr => ∃ (k : Nat) (A1 : Option Addr) (c1 : Nat), k ≤ sets ∧ iv = .int .i64 k ∧ wr.heap[w.heap.size]? = some (.cells #[.slice none 0 0] 44) ∧ wr.heap[w.heap.size + 1]? = some (.cells #[.slice A1 k c1] 44) ∧
    OCache (Rng (w.heap.size + 2) wr.heap.size) wr (.slice A1 k c1) (c.take k) ∧ Below w.heap.size w wr) (fun iv _ => sets - (intOf iv).toNat)
  case atStart => exact ⟨0, none, 0, Nat.zero_le _, rfl, byH, byH, OSl.nil _ _ _ _, byB⟩
  case round =>
    obtain ⟨k, A1, c1, hk, rfl, hr, ho, hO, hbw⟩ := hrel
    obtain ⟨cr, fr, zr⟩ := blk hr
    obtain ⟨co, fo, zo⟩ := blk ho
    have hsz := hbw.size
    by_cases hlt : k < sets
    · obtain ⟨ess, G, e1, e2, e3, e4, e5, e6⟩ := hO
      have hkl : k ≤ c.length := by rw [HL.out]; exact hk
      rw [len_take hkl] at e1 e2
      have e2 : wr.ownsRow 0 54 1 (.slice A1 k c1) k ess.flatten := e2
      have hlo : ∀ b, (Value.slice A1 k c1).ownBlock = some b → w.heap.size + 2 ≤ b := fun b hb => (e3 b hb).1
      have hk0 : (0 : Int) ≤ k := by omega
      have hk1 : (k : Int) < sets := by omega
      have HM := Lib.hid (made_own tyWay ways (by omega))
      go_wp2_with fail
      go_region_law
        (first | (refine step_app ?_ (.tmp 10) (.tmp 13) _ ?_ 0 tyWays (.slice A1 k c1) k ess.flatten ?_ ?_ (some ⟨wr.heap.size + 1, 0, none⟩) 1 1 [.slice (some ⟨wr.heap.size, 0, none⟩) ways ways] ?_ ?_ (one_one rfl) ?_ ?_ ?_ ?_; rfl; rfl; rfl; exact (by repeat (first | with_reducible exact e2 | (with_reducible refine World.ownsRow.alloc ?_ _) | (with_reducible refine own_drew ?_) | (with_reducible refine own_drewN ?_ _))); rfl; exact (src_new (by simp) rfl); (first | (unfold maxLen; omega) | (simp only [maxLen]; omega)); (omega); (exact Nat.zero_le _); intro A3 c3 w3 hown3 hg_w3 hat_w3; refine have_then (P := w3.heap[w.heap.size]? = some (.cells #[.slice none 0 0] 44)) ?_ (fun r_w3 => ?_); (focus (refine (hg_w3.block _ ?_ ?_).trans ?_; (first | omega | (simp <;> omega)); (intro e; have hlt := hlo _ e.symm; omega); exact byH; done)); obtain ⟨cr_w3, fr_w3, zr_w3⟩ := blk r_w3; refine have_then (P := w3.heap[w.heap.size + 1]? = some (.cells #[.slice A1 k c1] 44)) ?_ (fun o_w3 => ?_); (focus (refine (hg_w3.block _ ?_ ?_).trans ?_; (first | omega | (simp <;> omega)); (intro e; have hlt := hlo _ e.symm; omega); exact byH; done)); obtain ⟨co_w3, fo_w3, zo_w3⟩ := blk o_w3; refine have_then (P := Below w.heap.size w w3) ?_ (fun h_w3 => ?_); (focus (refine Below.grown ?_ hg_w3 ?_ ?_; (focus (exact byB; done)); (first | exact Nat.le_refl _ | exact Below.size (by assumption) | omega | (simp <;> omega)); (intro kk hkk; have hlt := hlo _ hkk; omega); done)); have s_w3 := Below.size h_w3; have t_w3 := hg_w3.size; (try simp at t_w3)))
      all_goals
        go_wp2_with fail
        go_roundw
        case rel =>
          refine ⟨k + 1, A3, c3, by omega, by go_num, byH, ?_, ?_, byB⟩
          · have := heap_set_same (i := 0) (u := .slice A3 (k + 1) c3) o_w3
            simpa using this
          · unfold OCache
            have hlc : k < c.length := by rw [HL.out]; exact hlt
            rw [take_snoc hlc, HC.out k hlt]
            have hl1 : (c.take k).length = k := len_take hkl
            refine osl_step (F := Rng (w.heap.size + 2) wr.heap.size) (Fx := Rng wr.heap.size (wr.heap.size + 1)) (es := [.slice (some ⟨wr.heap.size, 0, none⟩) ways ways]) (by rw [hl1]; exact e1) e4 e5 e6 e3 hg_w3 hat_w3 (by rw [hl1]; exact hown3) ⟨.slice (some ⟨wr.heap.size, 0, none⟩) ways ways, rfl, osl_flat.2 ⟨?_, ?_⟩⟩ byI ?_ ?_ ?_ ?_ ?_
            · have := HM.out wr.drew wr.heap.size rfl
              rw [show (emptySet ways).length = ways by simp [emptySet]]
              unfold emptySet
              rw [replicate_flatMap]
              exact World.ownsRow.alloc this _
            · intro b hb; simp [Value.ownBlock] at hb; simp only [Rng]; omega
            · intro b hb hb'; simp only [Rng] at hb hb'; omega
            · intro b hb; simp only [Rng] at hb; simp; omega
            · intro b hb; simp only [Rng] at hb ⊢; simp; omega
            · intro b hb hb'; simp only [Rng]; simp at hb ⊢; omega
            · exact byI
        case measure => simp [intOf]; omega
    · obtain rfl : k = sets := by omega
      have hO : OCache (Rng (w.heap.size + 2) wr.heap.size) wr (.slice A1 k c1) c := by rw [← HL.out, List.take_length, HL.out] at hO; exact hO
      go_wp2_with fail
      refine bodyPost_ret (v := .agg #[.slice A1 k c1]) (by simp [results, Try.results69, go_sem, *]) rfl ?_
      refine ⟨A1, c1, by rw [HL.out], OSl.mono (OSl.keepI (by rw [HL.out]; exact hO) byI) ?_, byB⟩
      · intro b hb; simp only [Rng] at hb ⊢; simp; omega
end Go.Proofs.Ytinlmkhlgclbfaa
end
