/- OwnE TurnF -/
import Derived.Test.YtinlmkhlgclbfabTsA26
import Derived.Test.YtinlmkhlgclbfabTsA28
import Derived.Test.YtinlmkhlgclbfabTsA29
import Derived.Test.YtinlmkhlgclbfabTsA31
import Derived.Test.YtinlmkhlgclbfabTsA33
section
namespace Go.Proofs.Ytinlmkhlgclbfab
open Go.RowKit
set_option maxHeartbeats 1000000

theorem one_dom (d : TDom) (T : TDomS) : ∀ u ∈ d.cells T, u.oneCell' = true := by
  intro u hu
  simp only [TDom.cells, List.mem_cons, List.mem_nil_iff, or_false] at hu
  rcases hu with rfl | rfl | rfl | rfl | rfl | rfl | rfl <;> rfl
/-- element k of a slice of domains -/
theorem Sl.at_dom {I : Nat → Prop} {w : World} {A : Option Addr} {c : Nat} {xs : List TDom} (h : Sl cDom I w A c xs) {k : Nat} (hk : k < xs.length) :
    ∃ (b o : Nat) (T : TDomS), A = some ⟨b, o, none⟩ ∧ I b ∧ w.cell? ⟨b, o + k * 7, none⟩ = some (.slice T.a0 (nth xs k).jobs.length T.n0) ∧ w.cell? ⟨b, o + k * 7 + 1, none⟩ = some (.slice T.a1 (nth xs k).released.length T.n1) ∧ w.cell? ⟨b, o + k * 7 + 2, none⟩ = some (.int .i64 (nth xs k).next) ∧
      w.cell? ⟨b, o + k * 7 + 3, none⟩ = some (.slice T.a2 (nth xs k).ins.length T.n2) ∧ w.cell? ⟨b, o + k * 7 + 4, none⟩ = some (.slice T.a3 (nth xs k).taken.length T.n3) ∧ w.cell? ⟨b, o + k * 7 + 5, none⟩ = some (.slice T.a4 (nth xs k).outs.length T.n4) ∧ w.cell? ⟨b, o + k * 7 + 6, none⟩ = some (.slice T.a5 (nth xs k).events.length T.n5) ∧ TDom.At I w (nth xs k) T := by
  obtain ⟨b, o, es, hA, hI, ⟨T, rfl, hT⟩, hc⟩ := h.cells hk
  exact ⟨b, o, T, hA, hI, hc 0 _ rfl, hc 1 _ rfl, hc 2 _ rfl, hc 3 _ rfl, hc 4 _ rfl, hc 5 _ rfl, hc 6 _ rfl, hT⟩
/-- one round of 'out = append(out, d)' -/
theorem doms_step {F : Nat → Prop} {w0 : World} {A : Option Addr} {i n : Nat} {xs : List TDom} (hi : xs.length = i) (hO : DomsO F w0 (.slice A i n) xs) :
    ∃ all : List Value, ownsZ w0 45 7 (.slice A i n) i all ∧ (∀ b, rowZ (.slice A i n) = some b → F b) ∧
      ∀ (w w' w'' : World) (A' : Option Addr) (n' : Nat) (Fx F' : Nat → Prop) (x : TDom) (T : TDomS) (G : Nat → Nat → Prop), ownsZ w' 45 7 (.slice A' (i + 1) n') (i + 1) (all ++ x.cells T) → w.grownBy w' (rowZ (.slice A i n)) → (∀ b, rowZ (.slice A' (i + 1) n') = some b → rowZ (.slice A i n) = some b ∨ b = w.heap.size) →
        DomO G w x T → (∀ j b, G j b → Fx b) → KeepI F w0 w → (∀ b, F b → ¬ Fx b) → (∀ b, F b ∨ Fx b → b < w.heap.size) → (∀ b, F b ∨ Fx b → F' b) → (∀ b, b = w.heap.size → b < w'.heap.size → F' b) → KeepI F' w' w'' → DomsO F' w'' (.slice A' (i + 1) n') (xs ++ [x]) := by
  subst hi
  obtain ⟨ess, G, h1, h2, h3, h4, h5, h6⟩ := hO
  exact ⟨ess.flatten, h2, h3, fun _ _ _ _ _ _ _ _ _ _ own3 gr3 at3 hx hG hk hd hlt hF hF' hk2 => ozl_step (e := oDom) h1 h4 h5 h6 h3 gr3 at3 own3 ⟨_, _, rfl, hx, hG⟩ hk hd hlt hF hF' hk2⟩
/-- domains of one's own are read -/
theorem DomsO.at {F : Nat → Prop} {w : World} {A : Option Addr} {n c : Nat} {xs : List TDom} (h : DomsO F w (.slice A n c) xs) : Sl cDom F w A c xs := OZl.read h
end Go.Proofs.Ytinlmkhlgclbfab
end

section
namespace Go.Proofs.Ytinlmkhlgclbfab
open Go.RowKit
set_option maxRecDepth 100000
set_option maxHeartbeats 8000000

theorem tyDom : TyS Try.prog 55 45 (.agg #[.slice none 0 0, .slice none 0 0, .int .i64 0, .slice none 0 0, .slice none 0 0, .slice none 0 0, .slice none 0 0]) 7 152 := ⟨Try.underlying55, info_of (by kernel_rfl), rfl, by decide⟩
/-- domains and a verdict were returned; what they reach is their own and new -/
def RetDomsE (ds : List TDom) (err : Int) (w : World) (e : Ending) (w' : World) : Prop := ∃ A n, e = .returned (.tuple #[.slice A ds.length n, .int .i64 err]) ∧ DomsO (Rng w.heap.size w'.heap.size) w' (.slice A ds.length n) ds ∧ Below w.heap.size w w'
theorem lvW_ret {w wl w' : World} {F : Nat → Prop} {c : TCfg} {S : TCfgS} {A : Option Addr} {n : Nat} {ds : List TDom} (h : LvW wl F w.heap.size c S A n ds w') (hb : Below w.heap.size w wl) : DomsO (Rng w.heap.size w'.heap.size) w' (.slice A ds.length n) ds ∧ Below w.heap.size w w' := by
  obtain ⟨F', hO, hE, hlt, hn⟩ := h.all
  have := hb.size
  refine ⟨hO.mono fun b hb => ⟨?_, hlt b hb⟩, hb.trans hE.below⟩
  rcases hn b hb with h1 | h1
  · exact h.lo b h1
  · omega

theorem turnClose (c : TCfg) (S : TCfgS) (ds : List TDom) (A : Option Addr) (n : Nat) (s : Int) (hz : ∀ k, k < ds.length → DomSz (nth ds k)) (B : Nat) (w : World) (hB : B ≤ w.heap.size) (hs : TCfg.At (Low B) w c S) (hd : Sl cDom (Low B) w A n ds) :
    Calls Try.prog 21 #[.agg #[.int .i64 c.sets, .int .i64 c.ways, .int .i64 c.doms, .int .i64 c.pad, .int .i64 c.quantum, .slice S.a0 c.slots.length S.n0, .slice S.a1 c.owners.length S.n1, .slice S.a2 c.chans.length S.n2, .slice S.a3 c.tasks.length S.n3], .slice A ds.length n, .int .i64 s] w (RetDomsE (closeRes c ds s) (closeErr c ds s) w) := by
  have H1 := Lib.hid (fun W (h : Below w.heap.size w W) => configCheck c S B W (Nat.le_trans hB h.size) (hs.next hB h))
  have H2 := Lib.hid (fun W => turnIsSlot c S s W)
  have md := Nat.le_trans hd.cap hd.max
  unfold maxLen at md
  by_cases e1 : checkConfig c = 0
  · have ok := checkConfig_ok e1
    rw [e1] at H1
    by_cases e2 : isSlot c s = true
    · have hsl := isSlot_true.1 e2
      rw [show (decide (0 ≤ s) && decide (s < c.slots.length)) = isSlot c s from rfl, e2] at H2
      by_cases e3 : (ds.length : Int) = c.doms
      · have HO : closeErr c ds s = firstE ds.length fun i => domErr c i (nth ds i) := by unfold closeErr; rw [if_neg (by simp [e1]), if_neg (by simpa using hsl), if_neg (by simpa using e3)]
        have b3 : ((ds.length : Int) != c.doms) = false := by simp [e3]
        have hd4 : ds.length ≤ 4 := by have := ok.doms; omega
        have HR := Lib.hid (fun k (hk : k < ds.length) (h0 : ∀ j, j < k → domErr c j (nth ds j) = 0) (h1 : domErr c k (nth ds k) ≠ 0) => (⟨by rw [HO]; exact firstE_hit hk h0 h1, by unfold closeRes; rw [if_neg (by rw [HO, firstE_hit hk h0 h1]; exact h1)]⟩ : closeErr c ds s = domErr c k (nth ds k) ∧ closeRes c ds s = []))
        have HZ := Lib.hid (fun (h0 : ∀ j, j < ds.length → domErr c j (nth ds j) = 0) => (⟨by rw [HO]; exact firstE_none h0, by unfold closeRes; rw [if_pos (by rw [HO]; exact firstE_none h0)]⟩ : closeErr c ds s = 0 ∧ closeRes c ds s = closeOf c s ds))
        have H3 := Lib.hid (fun k (hk : k < ds.length) (T : TDomS) (B' : Nat) W (h : Below w.heap.size w W) (hB' : B' ≤ W.heap.size) (hB2 : B ≤ B') (hT : TDom.At (Low B') W (nth ds k) T) => readyRight c S k (nth ds k) T ok B' W hB' ((hs.next hB h).up hB2) hT)
        have H4 := Lib.hid (fun k (hk : k < ds.length) (T : TDomS) W (h : Below w.heap.size w W) (hT : TDom.At (Low B) W (nth ds k) T) => readyOwn (nth ds k) T (hz k hk) B W (Nat.le_trans hB h.size) hT)
        have H5 := Lib.hid (fun (h0 : ∀ j, j < ds.length → domErr c j (nth ds j) = 0) (A' : Option Addr) (n' : Nat) W (h : Below w.heap.size w W) (hO : DomsO (Rng w.heap.size W.heap.size) W (.slice A' ds.length n') ds) => turnLeave c S ds A' n' s ok (lvOk_of e3 fun k hk => domErr_zero.1 (h0 k hk)) hsl (Rng w.heap.size W.heap.size) w.heap.size W h.size ((hs.next hB h).up hB) hO (fun b hb => hb))
        have HD := Lib.hid hd
        have HLN := Lib.hid (closeUp_len c (slotDom c s) c.chans.length 0 ds)
        clear HO e1 e2 e3 ok hs hz hd
        go_enter Try.func21, Try.ntmps21
        go_wp2_with fail
        (go_at_call 45; refine (H1.out _ byB).mono ?_; rintro e w1 ⟨rfl, hb_w1⟩; refine have_then (P := w1.heap[w.heap.size]? = some (.cells #[.int .i64 c.sets, .int .i64 c.ways, .int .i64 c.doms, .int .i64 c.pad, .int .i64 c.quantum, .slice S.a0 c.slots.length S.n0, .slice S.a1 c.owners.length S.n1, .slice S.a2 c.chans.length S.n2, .slice S.a3 c.tasks.length S.n3] 27)) ((hb_w1.block _ byS).trans byH) (fun c_w1 => ?_); obtain ⟨cc_w1, fc_w1, zc_w1⟩ := blk c_w1; refine have_then (P := Below w.heap.size w w1) byB (fun h_w1 => ?_); have s_w1 := Below.size h_w1; have t_w1 := Below.size hb_w1; (try simp at t_w1); revert hb_w1; intro hb_w1)
        go_wp2_with fail
        (go_at_call 47; refine (H2.out _).mono ?_; rintro e w2 ⟨rfl, hb_w2⟩; refine have_then (P := w2.heap[w.heap.size]? = some (.cells #[.int .i64 c.sets, .int .i64 c.ways, .int .i64 c.doms, .int .i64 c.pad, .int .i64 c.quantum, .slice S.a0 c.slots.length S.n0, .slice S.a1 c.owners.length S.n1, .slice S.a2 c.chans.length S.n2, .slice S.a3 c.tasks.length S.n3] 27)) ((hb_w2.block _ byS).trans byH) (fun c_w2 => ?_); obtain ⟨cc_w2, fc_w2, zc_w2⟩ := blk c_w2; refine have_then (P := Below w.heap.size w w2) byB (fun h_w2 => ?_); have s_w2 := Below.size h_w2; have t_w2 := Below.size hb_w2; (try simp at t_w2); revert hb_w2; intro hb_w2; clear c_w1 cc_w1 fc_w1)
        go_wp2_with fail
        go_loopw [9, 31] (fun ov iv wr => ∃ (i : Nat) (A1 : Option Addr) (n1 : Nat), i ≤ ds.length ∧ iv = .int .i64 i ∧ ov = .slice A1 i n1 ∧ Hid (∀ j, j < i → domErr c j (nth ds j) = 0) ∧ DomsO (Rng (w.heap.size + 1) wr.heap.size) wr (.slice A1 i n1) (ds.take i) ∧ wr.heap[w.heap.size]? = some (.cells #[.int .i64 c.sets, .int .i64 c.ways, .int .i64 c.doms, .int .i64 c.pad, .int .i64 c.quantum, .slice S.a0 c.slots.length S.n0, .slice S.a1 c.owners.length S.n1, .slice S.a2 c.chans.length S.n2, .slice S.a3 c.tasks.length S.n3] 27) ∧ Below w.heap.size w wr) (fun _ iv _ => ds.length - (intOf iv).toNat)
        case atStart => exact ⟨0, none, 0, Nat.zero_le _, rfl, rfl, Lib.hid (fun j hj => by omega), OZl.nil _ _ _ _, c_w2, h_w2⟩
        case round =>
          obtain ⟨i, A1, n1, hi, rfl, rfl, hq, hO, hbx, hbr⟩ := hrel
          have so := hbr.size
          obtain ⟨cx, fx, zx⟩ := blk hbx
          by_cases hlt : i < ds.length
          · have hi0 : (0 : Int) ≤ i := by omega
            have hi1 : (i : Int) < ds.length := by omega
            obtain ⟨b, o, T, rfl, hI, d0, d1, d2, d3, d4, d5, d6, hT⟩ := (HD.out.next hB hbr).at_dom hlt
            have hI := Nat.lt_of_lt_of_le hI hB
            have hbl : b < wr.heap.size := by omega
            have hTl := hT.mono (J := Low wr.heap.size) (fun b hb => by simp only [Low] at hb ⊢; omega)
            have hTk := Lib.hid hT
            have H3a := Lib.hid (fun W (h : Below wr.heap.size wr W) => H3.out i hlt T B W (hbr.trans (h.mono so)) (by have := h.size; omega) (Nat.le_refl _) (hT.keep fun b hb => h.block b (by simp only [Low] at hb; omega)))
            have H4a := Lib.hid (fun W (h : Below wr.heap.size wr W) => H4.out i hlt T W (hbr.trans (h.mono so)) (hT.keep fun b hb => h.block b (by simp only [Low] at hb; omega)))
            obtain ⟨all, hown, hrow, happ⟩ := doms_step (len_take (Nat.le_of_lt hlt)) hO
            have happ := Lib.hid happ
            have hown := Lib.hid hown
            clear hT hTl hO
            by_cases e4 : domErr c i (nth ds i) = 0
            · have hq2 : Hid (∀ j, j < i + 1 → domErr c j (nth ds j) = 0) := Lib.hid (fun j hj => by
                by_cases e : j = i
                · subst e; exact e4
                · exact hq.out j (by omega))
              rw [e4] at H3a
              clear e4 HR HZ H5 hq
              go_wp2_with fail
              (go_at_call 51; refine (H3a.out _ byB).mono ?_; rintro e w3 ⟨rfl, hb_w3⟩; refine have_then (P := w3.heap[w.heap.size]? = some (.cells #[.int .i64 c.sets, .int .i64 c.ways, .int .i64 c.doms, .int .i64 c.pad, .int .i64 c.quantum, .slice S.a0 c.slots.length S.n0, .slice S.a1 c.owners.length S.n1, .slice S.a2 c.chans.length S.n2, .slice S.a3 c.tasks.length S.n3] 27)) ((hb_w3.block _ byS).trans byH) (fun c_w3 => ?_); obtain ⟨cc_w3, fc_w3, zc_w3⟩ := blk c_w3; refine have_then (P := w3.heap[wr.heap.size]? = some (.cells #[.slice T.a0 (nth ds i).jobs.length T.n0, .slice T.a1 (nth ds i).released.length T.n1, .int .i64 (nth ds i).next, .slice T.a2 (nth ds i).ins.length T.n2, .slice T.a3 (nth ds i).taken.length T.n3, .slice T.a4 (nth ds i).outs.length T.n4, .slice T.a5 (nth ds i).events.length T.n5] 45)) ((hb_w3.block _ byS).trans byH) (fun d_w3 => ?_); obtain ⟨cd_w3, fd_w3, zd_w3⟩ := blk d_w3; refine have_then (P := Below w.heap.size w w3) byB (fun h_w3 => ?_); have s_w3 := Below.size h_w3; have t_w3 := Below.size hb_w3; (try simp at t_w3); revert hb_w3; intro hb_w3)
              go_wp2_with fail
              have h3 : Below wr.heap.size wr w3 := byB
              go_at_call 54
              refine (H4a.out _ byB).mono ?_
              rintro e w4 ⟨T4, G4, rfl, hO4, hG4, hb4⟩
              have hc4 : w4.heap[w.heap.size]? = some (.cells #[.int .i64 c.sets, .int .i64 c.ways, .int .i64 c.doms, .int .i64 c.pad, .int .i64 c.quantum, .slice S.a0 c.slots.length S.n0, .slice S.a1 c.owners.length S.n1, .slice S.a2 c.chans.length S.n2, .slice S.a3 c.tasks.length S.n3] 27) := (hb4.block _ (by omega)).trans c_w3
              have h4 : Below wr.heap.size wr w4 := h3.trans (hb4.mono (Below.size h3))
              have z3 := Below.size h3
              have z4 := hb4.size
              have hlt4 := hO4.lt
              have hG5 : ∀ j b, G4 j b → w3.heap.size ≤ b ∧ b < w4.heap.size := fun j b hb => ⟨hG4 j b hb, hlt4 j b hb⟩
              have hrow' := hrow
              have happ2 := Lib.hid (fun (w5 : World) A5 n5 own5 gr5 at5 => happ.out (w4.alloc (.cells #[.slice T4.a0 (nth ds i).jobs.length T4.n0, .slice T4.a1 (nth ds i).released.length T4.n1, .int .i64 (nth ds i).next, .slice T4.a2 (nth ds i).ins.length T4.n2, .slice T4.a3 (nth ds i).taken.length T4.n3, .slice T4.a4 (nth ds i).outs.length T4.n4, .slice T4.a5 (nth ds i).events.length T4.n5] 45)) w5 w5 A5 n5 (fun b => w3.heap.size ≤ b ∧ b < w4.heap.size) (Rng (w.heap.size + 1) w5.heap.size) (nth ds i) T4 G4 own5 gr5 at5
                (hO4.keep (fun j b hb => heap_alloc_old _ _ (hlt4 j b hb)) (by simp)) hG5 (fun b hb => (heap_alloc_old _ _ (by have := hb.2; omega)).trans (h4.block b hb.2)) (fun b hb hb2 => by have := hb.2; omega) (fun b hb => by simp; rcases hb with hb | hb; have := hb.2; omega; omega)
                (fun b hb => by have := gr5.size; simp at this; rcases hb with hb | hb; exact ⟨hb.1, by have := hb.2; omega⟩; exact ⟨by omega, by omega⟩) (fun b hb hlt => ⟨by simp at hb; omega, hlt⟩) (KeepI.refl _ _))
              have hown4 : ownsZ (w4.alloc (.cells #[.slice T4.a0 (nth ds i).jobs.length T4.n0, .slice T4.a1 (nth ds i).released.length T4.n1, .int .i64 (nth ds i).next, .slice T4.a2 (nth ds i).ins.length T4.n2, .slice T4.a3 (nth ds i).taken.length T4.n3, .slice T4.a4 (nth ds i).outs.length T4.n4, .slice T4.a5 (nth ds i).events.length T4.n5] 45)) 45 7 (.slice A1 i n1) i all := ownZ_keep hown.out fun b hb => (heap_alloc_old _ _ (by have := (hrow b hb).2; omega)).trans (h4.block b (hrow b hb).2)
              have hone := one_dom (nth ds i) T4
              have hout := Lib.hid (fun (w5 : World) (gr5 : (w4.alloc (.cells #[.slice T4.a0 (nth ds i).jobs.length T4.n0, .slice T4.a1 (nth ds i).released.length T4.n1, .int .i64 (nth ds i).next, .slice T4.a2 (nth ds i).ins.length T4.n2, .slice T4.a3 (nth ds i).taken.length T4.n3, .slice T4.a4 (nth ds i).outs.length T4.n4, .slice T4.a5 (nth ds i).events.length T4.n5] 45)).grownBy w5 (rowZ (.slice A1 i n1))) => (⟨(gr5.block _ (by simp; omega) (fun e => by have := (hrow _ e.symm).1; omega)).trans ((heap_alloc_old _ _ (by omega)).trans hc4), Below.grown (Below.alloc (hbr.trans (h4.mono so)) (by omega) _) gr5 (by simp; omega) (fun k hk => by have := (hrow k hk).1; omega)⟩ : w5.heap[w.heap.size]? = some (.cells #[.int .i64 c.sets, .int .i64 c.ways, .int .i64 c.doms, .int .i64 c.pad, .int .i64 c.quantum, .slice S.a0 c.slots.length S.n0, .slice S.a1 c.owners.length S.n1, .slice S.a2 c.chans.length S.n2, .slice S.a3 c.tasks.length S.n3] 27) ∧ Below w.heap.size w w5))
              replace hown4 := Lib.hid hown4
              replace hO4 := Lib.hid hO4
              replace hG4 := Lib.hid hG4
              replace hG5 := Lib.hid hG5
              replace hlt4 := Lib.hid hlt4
              replace hrow := Lib.hid hrow
              have htk : ds.take (i + 1) = ds.take i ++ [nth ds i] := take_snoc hlt
              replace htk := Lib.hid htk
              clear happ hown hrow' d0 d1 d2 d3 d4 d5 d6
              go_wp2_with (at_builtin; refine wpList_appZ rfl (.tmp 43) (.tmp 46) _ rfl tyDom (.slice A1 i n1) i all (by rfl) hown4.out (some ⟨w4.heap.size, 0, none⟩) 1 1 (TDom.cells (nth ds i) T4) (by rfl) (Src.of_new (heap_alloc_new _ _) rfl) hone (by unfold maxLen; omega) (by omega) (fun A5 n5 w5 own5 gr5 at5 => ?_); obtain ⟨hc5, hb5⟩ := hout.out w5 gr5; have hO5 := Lib.hid (happ2.out w5 A5 n5 own5 gr5 at5); clear own5 gr5 at5)
              exact ⟨⟨i + 1, A5, n5, by omega, by go_num, rfl, hq2, by rw [htk.out]; exact hO5.out, hc5, hb5⟩, by simp [intOf]; omega⟩
            · obtain ⟨R, R2⟩ := HR.out i hlt hq.out e4
              have b4 : (domErr c i (nth ds i) != 0) = true := by simp [e4]
              generalize domErr c i (nth ds i) = DE at *
              replace R := Lib.hid R
              replace R2 := Lib.hid R2
              clear e4 HR HZ H5 hq happ hown
              go_wp2_with fail
              (go_at_call 51; refine (H3a.out _ byB).mono ?_; rintro e w3 ⟨rfl, hb_w3⟩; refine have_then (P := w3.heap[w.heap.size]? = some (.cells #[.int .i64 c.sets, .int .i64 c.ways, .int .i64 c.doms, .int .i64 c.pad, .int .i64 c.quantum, .slice S.a0 c.slots.length S.n0, .slice S.a1 c.owners.length S.n1, .slice S.a2 c.chans.length S.n2, .slice S.a3 c.tasks.length S.n3] 27)) ((hb_w3.block _ byS).trans byH) (fun c_w3 => ?_); obtain ⟨cc_w3, fc_w3, zc_w3⟩ := blk c_w3; refine have_then (P := Below w.heap.size w w3) byB (fun h_w3 => ?_); have s_w3 := Below.size h_w3; have t_w3 := Below.size hb_w3; (try simp at t_w3); revert hb_w3; intro hb_w3)
              go_wp2_with fail
              refine bodyPost_ret (v := .tuple #[.slice none 0 0, .int .i64 DE]) (by simp [results, Try.results21, go_sem, *]) rfl ?_
              rw [R.out, R2.out]
              exact ⟨none, 0, rfl, OZl.nil _ _ _ _, h_w3⟩
          · obtain rfl : i = ds.length := by omega
            rw [List.take_of_length_le (Nat.le_refl _)] at hO
            obtain ⟨R, R2⟩ := HZ.out hq.out
            replace R := Lib.hid R
            replace R2 := Lib.hid R2
            have HL := Lib.hid (fun W (h : Below wr.heap.size wr W) => H5.out hq.out A1 n1 W (hbr.trans (h.mono so)) ((hO.keep fun b hb => h.block b hb.2).mono fun b hb => ⟨by have := hb.1; omega, by have := h.size; have := hb.2; omega⟩))
            clear hO HR HZ hq H5
            go_wp2_with fail
            go_at_call 61
            refine (HL.out _ byB).mono ?_
            rintro e w5 ⟨rfl, hL5⟩
            have hr5 := lvW_ret hL5 byB
            have hl5 : (closeOf c s ds).length = ds.length := HLN.out
            replace hl5 := Lib.hid hl5
            replace hr5 := Lib.hid hr5
            clear hL5
            go_wp2_with fail
            refine bodyPost_ret (v := .tuple #[.slice A1 ds.length n1, .int .i64 0]) (by simp [results, Try.results21, go_sem, *]) rfl ?_
            rw [R.out, R2.out]
            exact ⟨A1, n1, by rw [hl5.out], hr5.out.1, hr5.out.2⟩
      · have R : closeErr c ds s = 1 := by unfold closeErr; rw [if_neg (by simp [e1]), if_neg (by simpa using hsl), if_pos e3]
        have R2 : closeRes c ds s = [] := by unfold closeRes; rw [if_neg (by rw [R]; decide)]
        rw [R, R2]
        have b3 : ((ds.length : Int) != c.doms) = true := by simp [e3]
        clear e1 e2 e3 ok hs hz hd R R2
        go_enter Try.func21, Try.ntmps21
        go_wp2_with fail
        (go_at_call 45; refine (H1.out _ byB).mono ?_; rintro e w1 ⟨rfl, hb_w1⟩; refine have_then (P := w1.heap[w.heap.size]? = some (.cells #[.int .i64 c.sets, .int .i64 c.ways, .int .i64 c.doms, .int .i64 c.pad, .int .i64 c.quantum, .slice S.a0 c.slots.length S.n0, .slice S.a1 c.owners.length S.n1, .slice S.a2 c.chans.length S.n2, .slice S.a3 c.tasks.length S.n3] 27)) ((hb_w1.block _ byS).trans byH) (fun c_w1 => ?_); obtain ⟨cc_w1, fc_w1, zc_w1⟩ := blk c_w1; refine have_then (P := Below w.heap.size w w1) byB (fun h_w1 => ?_); have s_w1 := Below.size h_w1; have t_w1 := Below.size hb_w1; (try simp at t_w1); revert hb_w1; intro hb_w1)
        go_wp2_with fail
        (go_at_call 47; refine (H2.out _).mono ?_; rintro e w2 ⟨rfl, hb_w2⟩; refine have_then (P := w2.heap[w.heap.size]? = some (.cells #[.int .i64 c.sets, .int .i64 c.ways, .int .i64 c.doms, .int .i64 c.pad, .int .i64 c.quantum, .slice S.a0 c.slots.length S.n0, .slice S.a1 c.owners.length S.n1, .slice S.a2 c.chans.length S.n2, .slice S.a3 c.tasks.length S.n3] 27)) ((hb_w2.block _ byS).trans byH) (fun c_w2 => ?_); obtain ⟨cc_w2, fc_w2, zc_w2⟩ := blk c_w2; refine have_then (P := Below w.heap.size w w2) byB (fun h_w2 => ?_); have s_w2 := Below.size h_w2; have t_w2 := Below.size hb_w2; (try simp at t_w2); revert hb_w2; intro hb_w2; clear c_w1 cc_w1 fc_w1)
        go_wp2_with fail
        refine bodyPost_ret (v := .tuple #[.slice none 0 0, .int .i64 1]) (by simp [results, Try.results21, go_sem, *]) rfl ?_
        exact ⟨none, 0, rfl, OZl.nil _ _ _ _, h_w2⟩
    · have e2 : isSlot c s = false := by simpa using e2
      have R : closeErr c ds s = 5 := by unfold closeErr; rw [if_neg (by simp [e1]), if_pos (isSlot_false.1 e2)]
      have R2 : closeRes c ds s = [] := by unfold closeRes; rw [if_neg (by rw [R]; decide)]
      rw [R, R2]
      rw [show (decide (0 ≤ s) && decide (s < c.slots.length)) = isSlot c s from rfl, e2] at H2
      clear e1 e2 ok hs hz hd R R2
      go_enter Try.func21, Try.ntmps21
      go_wp2_with fail
      (go_at_call 45; refine (H1.out _ byB).mono ?_; rintro e w1 ⟨rfl, hb_w1⟩; refine have_then (P := w1.heap[w.heap.size]? = some (.cells #[.int .i64 c.sets, .int .i64 c.ways, .int .i64 c.doms, .int .i64 c.pad, .int .i64 c.quantum, .slice S.a0 c.slots.length S.n0, .slice S.a1 c.owners.length S.n1, .slice S.a2 c.chans.length S.n2, .slice S.a3 c.tasks.length S.n3] 27)) ((hb_w1.block _ byS).trans byH) (fun c_w1 => ?_); obtain ⟨cc_w1, fc_w1, zc_w1⟩ := blk c_w1; refine have_then (P := Below w.heap.size w w1) byB (fun h_w1 => ?_); have s_w1 := Below.size h_w1; have t_w1 := Below.size hb_w1; (try simp at t_w1); revert hb_w1; intro hb_w1)
      go_wp2_with fail
      (go_at_call 47; refine (H2.out _).mono ?_; rintro e w2 ⟨rfl, hb_w2⟩; refine have_then (P := w2.heap[w.heap.size]? = some (.cells #[.int .i64 c.sets, .int .i64 c.ways, .int .i64 c.doms, .int .i64 c.pad, .int .i64 c.quantum, .slice S.a0 c.slots.length S.n0, .slice S.a1 c.owners.length S.n1, .slice S.a2 c.chans.length S.n2, .slice S.a3 c.tasks.length S.n3] 27)) ((hb_w2.block _ byS).trans byH) (fun c_w2 => ?_); obtain ⟨cc_w2, fc_w2, zc_w2⟩ := blk c_w2; refine have_then (P := Below w.heap.size w w2) byB (fun h_w2 => ?_); have s_w2 := Below.size h_w2; have t_w2 := Below.size hb_w2; (try simp at t_w2); revert hb_w2; intro hb_w2; clear c_w1 cc_w1 fc_w1)
      go_wp2_with fail
      refine bodyPost_ret (v := .tuple #[.slice none 0 0, .int .i64 5]) (by simp [results, Try.results21, go_sem, *]) rfl ?_
      exact ⟨none, 0, rfl, OZl.nil _ _ _ _, h_w2⟩
  · have R : closeErr c ds s = checkConfig c := by unfold closeErr; rw [if_pos e1]
    have R2 : closeRes c ds s = [] := by unfold closeRes; rw [if_neg (by rw [R]; exact e1)]
    rw [R, R2]
    have b1 : (checkConfig c != 0) = true := by simp [e1]
    clear e1 hs H2 R R2
    generalize checkConfig c = CE at *
    go_enter Try.func21, Try.ntmps21
    go_wp2_with fail
    (go_at_call 45; refine (H1.out _ byB).mono ?_; rintro e w1 ⟨rfl, hb_w1⟩; refine have_then (P := w1.heap[w.heap.size]? = some (.cells #[.int .i64 c.sets, .int .i64 c.ways, .int .i64 c.doms, .int .i64 c.pad, .int .i64 c.quantum, .slice S.a0 c.slots.length S.n0, .slice S.a1 c.owners.length S.n1, .slice S.a2 c.chans.length S.n2, .slice S.a3 c.tasks.length S.n3] 27)) ((hb_w1.block _ byS).trans byH) (fun c_w1 => ?_); obtain ⟨cc_w1, fc_w1, zc_w1⟩ := blk c_w1; refine have_then (P := Below w.heap.size w w1) byB (fun h_w1 => ?_); have s_w1 := Below.size h_w1; have t_w1 := Below.size hb_w1; (try simp at t_w1); revert hb_w1; intro hb_w1)
    go_wp2_with fail
    refine bodyPost_ret (v := .tuple #[.slice none 0 0, .int .i64 CE]) (by simp [results, Try.results21, go_sem, *]) rfl ?_
    exact ⟨none, 0, rfl, OZl.nil _ _ _ _, h_w1⟩
end Go.Proofs.Ytinlmkhlgclbfab
end
