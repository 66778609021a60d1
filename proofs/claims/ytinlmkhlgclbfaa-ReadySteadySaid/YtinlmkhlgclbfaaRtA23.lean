/- ReachB KeepD IdxChan -/
import Derived.Test.YtinlmkhlgclbfaaRtA01
import Derived.Test.YtinlmkhlgclbfaaRtA04
import Derived.Test.YtinlmkhlgclbfaaRtA22
import Derived.Test.YtinlmkhlgclbfaaProg
import Derived.StillTailTactics
import Derived.Deep.RegionLaw
section
namespace Go.Proofs.Ytinlmkhlgclbfaa
open Go.RowKit
set_option maxRecDepth 100000
set_option maxHeartbeats 1000000

/-- the first region of n operations -/
def regionOf (n : Nat) : Code → Option Code
  | .region i ops d => if ops.size = n then some (.region i ops d) else none
  | .seq a b => match regionOf n a with
    | some c => some c
    | none => regionOf n b
  | .cond _ a b => match regionOf n a with
    | some c => some c
    | none => regionOf n b
  | .block _ c => regionOf n c
  | .loop c => regionOf n c
  | .scope c => regionOf n c
  | _ => none
noncomputable def turnCode : Code := ((Try.f83.body.bind (regionOf 26)).getD .skip)

theorem reachTurn (C : Code) (hC : C = turnCode) (n ks kd i g gi gx c1 : Nat) (xz : Int) (b1 b2 : Bool) (hi1 : i < n) (hs1 : ks < n) (hd1 : kd < n) (wr : World) (hn4 : n ≤ 4)
    (cx : ∀ oo, wr.cell? ⟨gx, oo, none⟩ = #[.int .i64 ks, .int .i64 kd, .int .i64 xz][oo]?) (fx : ∀ oo, wr.frozen? ⟨gx, oo, none⟩ = false) (zx : gx < wr.heap.size)
    (hcr : wr.cell? ⟨g, i, none⟩ = some (.slice (some ⟨gi, 0, none⟩) n n)) (hcs : wr.cell? ⟨gi, ks, none⟩ = some (.bool b1)) (hcd : wr.cell? ⟨gi, kd, none⟩ = some (.bool b2))
    (fg : ∀ oo, wr.frozen? ⟨gi, oo, none⟩ = false) (zg : gi < wr.heap.size)
    (u0 u1 u2 u4 u5 u6 u9 u10 u11 u12 u13 u14 u15 u16 u17 u18 u19 u20 u21 u22 u23 u24 u25 u26 u27 u28 u29 u30 u31 u32 u33 u34 u35 u36 u37 u38 u39 u40 u41 u42 u43 u44 u45 u46 u47 u48 u49 u50 u51 u52 u53 u54 u55 u56 u57 u58 u59 u60 u61 u62 u63 u64 u65 u66 u67 u68 u69 : Value) (Q : Exit → Act → World → Prop)
    (hQ : ∀ v41 v42 v43 v44 v45 v46 v47 v48 v49 v50 v51 v52 v53 v54 v55 v56 v57 v58 v59 v60 v61 v62 v63 v64 v65 : Value, Q .normal ⟨#[u0, u1, u2, .slice (some ⟨g, 0, none⟩) n c1, u4, u5, u6, .pointer (some ⟨gx, 0, none⟩), .int .i64 i, u9, u10, u11, u12, u13, u14, u15, u16, u17, u18, u19, u20, u21, u22, u23, u24, u25, u26, u27, u28, u29, u30, u31, u32, u33, u34, u35, u36, u37, u38, u39, u40, v41, v42, v43, v44, v45, v46, v47, v48, v49, v50, v51, v52, v53, v54, v55, v56, v57, v58, v59, v60, v61, v62, v63, v64, v65, u66, u67, u68, u69], []⟩ (wr.setCell ⟨gi, kd, none⟩ (.bool (b2 || b1))).drew) :
    Code.wp Try.prog C Q ⟨#[u0, u1, u2, .slice (some ⟨g, 0, none⟩) n c1, u4, u5, u6, .pointer (some ⟨gx, 0, none⟩), .int .i64 i, u9, u10, u11, u12, u13, u14, u15, u16, u17, u18, u19, u20, u21, u22, u23, u24, u25, u26, u27, u28, u29, u30, u31, u32, u33, u34, u35, u36, u37, u38, u39, u40, u41, u42, u43, u44, u45, u46, u47, u48, u49, u50, u51, u52, u53, u54, u55, u56, u57, u58, u59, u60, u61, u62, u63, u64, u65, u66, u67, u68, u69], []⟩ wr := by
  subst hC
  have hi0 : (0 : Int) ≤ i := by omega
  have hks0 : (0 : Int) ≤ ks := by omega
  have hkd0 : (0 : Int) ≤ kd := by omega
  have hi2 : (i : Int) < n := by omega
  have hks2 : (ks : Int) < n := by omega
  have hkd2 : (kd : Int) < n := by omega
  replace hQ := Lib.hid hQ
  conv => arg 2; whnf
  cases b2
  · (refine wp_region_still_tail 25 (by kernel_rfl) (by kernel_rfl) ?_; simp only [List.take_succ_cons, List.take_zero, List.drop_succ_cons, List.drop_zero]; (iterate 25 (with_reducible refine wpStill_step (fun K hK => ?_); replace hK := Lib.hid hK; go_simp; with_reducible refine hK.out _ ?_; clear hK K)); refine wpStill_nil ?_)
    change wpList _ _ _ _ _ wr.drew
    go_wp2_with fail
    exact hQ.out _ _ _ _ _ _ _ _ _ _ _ _ _ _ _ _ _ _ _ _ _ _ _ _ _ 
  · (refine wp_region_still_tail 25 (by kernel_rfl) (by kernel_rfl) ?_; simp only [List.take_succ_cons, List.take_zero, List.drop_succ_cons, List.drop_zero]; (iterate 25 (with_reducible refine wpStill_step (fun K hK => ?_); replace hK := Lib.hid hK; go_simp; with_reducible refine hK.out _ ?_; clear hK K)); refine wpStill_nil ?_)
    change wpList _ _ _ _ _ wr.drew
    go_wp2_with fail
    exact hQ.out _ _ _ _ _ _ _ _ _ _ _ _ _ _ _ _ _ _ _ _ _ _ _ _ _ 
end Go.Proofs.Ytinlmkhlgclbfaa
end

section
namespace Go.Proofs.Ytinlmkhlgclbfaa
open Go.RowKit
set_option maxRecDepth 100000
set_option maxHeartbeats 4000000

theorem CfgOk.job {c : TCfg} {dom : Int} {j : TJob} (hc : CfgOk c) (h : JobOk c dom j) : 0 ≤ (taskOf c j.task).dead ∧ (taskOf c j.task).dead ≤ 5000 := by
  have := hc.task j.task.toNat (by have := h.task; omega)
  unfold taskOf
  omega
theorem DomO.job_cells {G : Nat → Nat → Prop} {w : World} {d : TDom} {T : TDomS} (h : DomO G w d T) {i : Nat} (hi : i < d.jobs.length) :
    ∃ g, T.a0 = some ⟨g, 0, none⟩ ∧ G 0 g ∧ g < w.heap.size ∧ w.cell? ⟨g, i * 6, none⟩ = some (.int .i64 (nth d.jobs i).task) ∧ w.cell? ⟨g, i * 6 + 1, none⟩ = some (.int .i64 (nth d.jobs i).number) ∧ w.cell? ⟨g, i * 6 + 2, none⟩ = some (.int .i64 (nth d.jobs i).released) ∧
      w.cell? ⟨g, i * 6 + 3, none⟩ = some (.int .i64 (nth d.jobs i).used) ∧ w.cell? ⟨g, i * 6 + 4, none⟩ = some (.bool (nth d.jobs i).ran) ∧ w.cell? ⟨g, i * 6 + 5, none⟩ = some (.bool (nth d.jobs i).missed) := by
  obtain ⟨g, e, hG, hg, hc, hf, _⟩ := h.job hi
  exact ⟨g, e, hG, hg, hc 0 _ rfl, hc 1 _ rfl, hc 2 _ rfl, hc 3 _ rfl, hc 4 _ rfl, hc 5 _ rfl⟩

theorem keeperBest (gk : Nat) (G : Nat → Nat → Prop) (B : Nat) (w : World) (c : TCfg) (S : TCfgS) (m : Int) (d : TDom) (T : TDomS) (h : Kp gk G B w c S m d T) (hc : CfgOk c) (hd : DomOk c m d) :
    Calls Try.prog 98 #[.pointer (some ⟨gk, 0, none⟩)] w fun e w' => e = .returned (.int .i64 (bestOf c d.jobs)) ∧ Below w.heap.size w w' := by
  have hk := Lib.hid h
  obtain ⟨hb, _, _, _, hlo⟩ := h
  obtain ⟨cb, fb, zb⟩ := blk hb
  have hn := hd.njobs
  go_enter Try.func98, Try.ntmps98
  go_wp2_with fail
  clear cb fb
  go_loopw [3, 12] (fun bv iv wr => ∃ (i : Nat) (b : Int), i ≤ d.jobs.length ∧ bv = .int .i64 b ∧ iv = .int .i64 i ∧ BestTo c d.jobs i b ∧ Below w.heap.size w wr) (fun bv iv wr => (d.jobs.length - intOf iv).toNat)
  case atStart => exact ⟨0, -1, Nat.zero_le _, rfl, rfl, BestTo.zero _ _, byB⟩
  case round =>
    obtain ⟨i, b, hi, rfl, rfl, hbt, hbr⟩ := hrel
    have hK := hk.out.ext hbr
    have hsz := hbr.size
    by_cases hlt : i < d.jobs.length
    · obtain ⟨g, e0, hG, hg, k0, k1, k2, k3, k4, k5⟩ := hK.dom.job_cells hlt
      have hbw := hK.blk
      rw [e0] at hbw
      obtain ⟨cw, fw, zw⟩ := blk hbw
      rw [e0]
      have hil : (i : Int) < d.jobs.length := by omega
      have hi0 : (0 : Int) ≤ i := by omega
      by_cases hb0 : b < 0
      · go_wp2_with fail
        go_quiet (fail)
        go_wp2_with fail
        go_roundw
        case rel => exact ⟨i + 1, i, by omega, rfl, by go_num, hbt.take (.inl hb0), byB⟩
        case measure => simp [intOf]; omega
      · obtain ⟨ib, hib, rfl⟩ : ∃ ib : Nat, ib < i ∧ b = ib := by
          rcases hbt with ⟨_, rfl⟩ | ⟨ib, h1, h2, _⟩
          · omega
          · exact ⟨ib, h1, h2⟩
        have hibl : (ib : Int) < d.jobs.length := by omega
        have hib0 : (0 : Int) ≤ ib := by omega
        go_wp2_with fail
        generalize hW : wr.alloc (.cells #[.int .i64 (nth d.jobs i).task, .int .i64 (nth d.jobs i).number, .int .i64 (nth d.jobs i).released, .int .i64 (nth d.jobs i).used, .bool (nth d.jobs i).ran, .bool (nth d.jobs i).missed] 106) = W1
        have hbx : W1.heap[wr.heap.size]? = some (.cells #[.int .i64 (nth d.jobs i).task, .int .i64 (nth d.jobs i).number, .int .i64 (nth d.jobs i).released, .int .i64 (nth d.jobs i).used, .bool (nth d.jobs i).ran, .bool (nth d.jobs i).missed] 106) := by rw [← hW]; exact heapAt _ _ _ rfl
        have hbr1 : Below w.heap.size w W1 := (by rw [← hW]; exact byB)
        have hK1 := hk.out.ext hbr1
        have hb1 := hK1.blk
        rw [e0] at hb1
        obtain ⟨g', e0', _, _, q0, q1, q2, q3, q4, q5⟩ := hK1.dom.job_cells (i := ib) (by omega)
        obtain rfl : g = g' := by rw [e0] at e0'; injection e0' with e; injection e
        replace hW := Lib.hid hW
        obtain ⟨cx, fx, zx⟩ := blk hbx
        obtain ⟨cy, fy, zy⟩ := blk hb1
        have HC := keeperAhead gk G B W1.drew c S m d T (hk.out.ext hbr1.drew) (nth d.jobs i) (nth d.jobs ib) (hd.job i hlt).task (hd.job ib (by omega)).task (hc.job (hd.job i hlt)) (hc.job (hd.job ib (by omega))) (hd.job i hlt).released (hd.job ib (by omega)).released hc.ntasks
        replace HC := Lib.hid HC
        replace hK := Lib.hid hK
        replace hK1 := Lib.hid hK1
        clear k0 k1 k2 k3 k4 k5 hbw cw fw zw
        (refine wp_region_still_tail 13 (by kernel_rfl) (by kernel_rfl) ?_; simp only [List.take_succ_cons, List.take_zero, List.drop_succ_cons, List.drop_zero]; (iterate 13 (with_reducible refine wpStill_step (fun K hK => ?_); replace hK := Lib.hid hK; go_simp; with_reducible refine hK.out _ ?_; clear hK K)); refine wpStill_nil ?_)
        change wpList _ _ _ _ _ W1.drew
        go_wp2_with (go_at_call 125; refine HC.out.mono ?_; rintro e w2 ⟨rfl, hb2⟩; generalize hA : aheadJ c (nth d.jobs i) (nth d.jobs ib) = ab)
        · have hbr2 : Below w.heap.size w w2 := hbr1.drew.trans (hb2.mono hbr1.drew.size)
          rename_i hcase
          exact ⟨⟨i + 1, i, by omega, rfl, by go_num, hbt.take (.inr (by rw [show (ib : Int).toNat = ib by omega, hA]; rcases hcase with h | h; omega; exact h)), hbr2⟩, by simp [intOf]; omega⟩
        · have hbr2 : Below w.heap.size w w2 := hbr1.drew.trans (hb2.mono hbr1.drew.size)
          rename_i hcase
          exact ⟨⟨i + 1, ib, by omega, rfl, by go_num, hbt.stay hib0 (by rw [show (ib : Int).toNat = ib by omega, hA]; exact hcase.2), hbr2⟩, by simp [intOf]; omega⟩
    · obtain rfl : i = d.jobs.length := by omega
      go_wp2_with fail
      refine bodyPost_ret (v := .int .i64 b) (by simp [results, Try.results98, go_sem, *]) rfl ?_
      exact ⟨by rw [hbt.best], hbr⟩
end Go.Proofs.Ytinlmkhlgclbfaa
end

section
namespace Go.Proofs.Ytinlmkhlgclbfaa
open Go.RowKit
set_option maxRecDepth 100000
set_option maxHeartbeats 400000

/-- what a function value handed to IndexFunc must do at each element -/
def TellsChan (P : Program) (f : FuncId) (cap : Array Value) (xs : List TChan) (I : Nat → Prop) (p : Nat → Bool) (w : World) : Prop :=
  ∀ k, k < xs.length → ∀ w', Below w.heap.size w w' → Calls P f (#[.agg #[.int .i64 (nth xs k).src, .int .i64 (nth xs k).dst, .int .i64 (nth xs k).size]] ++ cap) w' fun e w'' => e = .returned (.bool (p k)) ∧ Below w'.heap.size w' w''

theorem indexChan (xs : List TChan) (A : Option Addr) (c : Nat) (f : FuncId) (cap : Array Value) (p : Nat → Bool) (B : Nat) (w : World) (hB : B ≤ w.heap.size)
   (hs : Sl cChan (Low B) w A c xs) (he : Enters Try.prog f) (hf : TellsChan Try.prog f cap xs (Low B) p w) :
    Calls Try.prog 130 #[.slice A xs.length c, .func (.func f) #[] cap] w fun e w' => e = .returned (.int .i64 (findI xs.length p)) ∧ Below w.heap.size w w' := by
  have hm : xs.length ≤ maxLen := Nat.le_trans hs.cap hs.max
  unfold maxLen at hm
  unfold Enters at he
  go_enter Try.func130, Try.ntmps130
  go_wp2
  go_loopw [5, 8] (fun _ i wr => ∃ k : Nat, k ≤ xs.length ∧ i = .int .i64 k ∧ Hid (∀ j, j < k → p j = false) ∧ Below w.heap.size w wr) (fun _ i _ => xs.length - (intOf i).toNat)
  case atStart => exact ⟨0, Nat.zero_le _, rfl, fun j hj => by omega, Below.refl _ _⟩
  case round =>
    obtain ⟨k, hk, rfl, hp, hbw⟩ := hrel
    by_cases hlt : k < xs.length
    · obtain ⟨b, o, rfl, hI, hc0, hc1, hc2⟩ := (hs.next hB hbw).at_chan hlt
      go_wp2_with (refine (hf k hlt wr hbw).mono ?_; rintro e w1 ⟨rfl, hb1⟩)
      · have h1 : p k = true := by assumption
        go_ret
        rw [findI_hit hlt hp.out h1]
        exact ⟨rfl, hbw.trans (hb1.mono hbw.size)⟩
      · have h1 : p k = false := by assumption
        go_roundw
        case rel => exact ⟨k + 1, by omega, by go_num, fun j hj => by
          by_cases e : j = k
          · subst e; exact h1
          · exact hp.out j (by omega), hbw.trans (hb1.mono hbw.size)⟩
        case measure => simp [intOf]; omega
    · go_wp2
      go_ret
      rw [findI_none fun j hj => hp.out j (by omega)]
      exact ⟨rfl, hbw⟩

theorem containsChan (xs : List TChan) (A : Option Addr) (c : Nat) (f : FuncId) (cap : Array Value) (p : Nat → Bool) (B : Nat) (w : World) (hB : B ≤ w.heap.size)
   (hs : Sl cChan (Low B) w A c xs) (he : Enters Try.prog f) (hf : TellsChan Try.prog f cap xs (Low B) p w) :
    Calls Try.prog 116 #[.slice A xs.length c, .func (.func f) #[] cap] w fun e w' => e = .returned (.bool (anyI xs.length p)) ∧ Below w.heap.size w w' := by
  have H := Lib.hid (indexChan xs A c f cap p B w hB hs he hf)
  clear hs he hf
  go_enter Try.func116, Try.ntmps116
  go_wp2_with (go_at_call 130; refine H.out.mono ?_; rintro e w1 ⟨rfl, hb1⟩)
  go_ret
  exact ⟨ret_bool (by rw [← findI_any]), hb1⟩
end Go.Proofs.Ytinlmkhlgclbfaa
end
