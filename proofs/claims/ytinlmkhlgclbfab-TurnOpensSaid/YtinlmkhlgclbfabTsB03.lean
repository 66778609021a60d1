/- TurnG -/
import Derived.Test.YtinlmkhlgclbfabTsB01
import Derived.Test.YtinlmkhlgclbfabTsB02
import Derived.Test.YtinlmkhlgclbfabTsA13
import Derived.Test.YtinlmkhlgclbfabTsA24
import Derived.StillTailTactics
namespace Go.Proofs.Ytinlmkhlgclbfab
open Go.RowKit
set_option maxRecDepth 100000
set_option maxHeartbeats 8000000

theorem refOpenOf (c : TCfg) (S : TCfgS) (ar : List TArr) (A : Option Addr) (n : Nat) (s : Int) (d : TDom) (T : TDomS) (t0 t1 : Int) (ok : CfgOk c) (h40 : ar.length ≤ 40)
    (h : 0 ≤ s ∧ s < c.slots.length) (hlt : d.taken.length = c.owners.length) (htk : ∀ i, i < d.taken.length → 0 ≤ nth d.taken i ∧ nth d.taken i ≤ 15) (hz : DomSz d) (hev : d.events.length + 1 ≤ 4398046511104)
    (B : Nat) (w : World) (hB : B ≤ w.heap.size) (hs : TCfg.At (Low B) w c S) (hl : Sl cArr (Low B) w A n ar) (hd : TDom.At (Low B) w d T) :
    Calls Try.prog 19 #[.agg #[.int .i64 c.sets, .int .i64 c.ways, .int .i64 c.doms, .int .i64 c.pad, .int .i64 c.quantum, .slice S.a0 c.slots.length S.n0, .slice S.a1 c.owners.length S.n1, .slice S.a2 c.chans.length S.n2, .slice S.a3 c.tasks.length S.n3], .slice A ar.length n, .int .i64 s, .agg #[.slice T.a0 d.jobs.length T.n0, .slice T.a1 d.released.length T.n1, .int .i64 d.next, .slice T.a2 d.ins.length T.n2, .slice T.a3 d.taken.length T.n3, .slice T.a4 d.outs.length T.n4, .slice T.a5 d.events.length T.n5], .int .i64 t0, .int .i64 t1] w (RetDom (openOf c ar s d t0 t1) w) := by
  obtain ⟨sn, rfl⟩ := Int.eq_ofNat_of_zero_le h.1
  have hsn : sn < c.slots.length := by omega
  have n4 := ok.nowners
  have HC1 := Lib.hid (fun W (h : Below w.heap.size w W) => refCopyDomain d T hz B W (Nat.le_trans hB h.size) (hd.next hB h))
  have HA1 := Lib.hid (fun W (h : Below w.heap.size w W) => refArrivedOf c S ar (nth c.slots sn).dom t0 t1 ok.nowners h40 A n B W (Nat.le_trans hB h.size) (hs.next hB h) (hl.next hB h))
  have HE := Lib.hid (openOf_told c ar sn d t0 t1)
  have n6 := ok.nslots
  replace hlt := Lib.hid hlt
  (obtain ⟨a0, n0, a1, n1, a2, n2, a3, n3⟩ := S; obtain ⟨hs0, hs1, hs2, hs3⟩ := hs; dsimp only at hs0 hs1 hs2 hs3 ⊢)
  obtain ⟨b1, o1, rfl, hI1, k0, k1⟩ := hs0.at_slot hsn
  have hbl : b1 < w.heap.size := Nat.lt_of_lt_of_le hI1 hB
  have KD := Lib.hid (fun W (h : Below w.heap.size w W) => (show W.cell? ⟨b1, o1 + sn * 2, none⟩ = some (.int .i64 (nth c.slots sn).dom) from (h.cell (p := ⟨b1, _, none⟩) hbl).trans k0))
  have i0 : (0 : Int) ≤ sn := by omega
  have i1 : (sn : Int) < c.slots.length := by omega
  clear hs0 hs1 hs2 hs3 k0 k1 hl hd hz
  go_enter Try.func19, Try.ntmps19
  go_wp2_with fail
  go_at_call 58
  refine (HC1.out _ byB).mono ?_
  rintro e w2 ⟨T2, G2, rfl, hO2, hG2, hb2⟩
  have hG2' : ∀ j b, G2 j b → w.heap.size + 3 ≤ b := fun j b hb => by have := hG2 j b hb; simpa using this
  have s2 := hb2.size
  simp at s2
  have c2 : w2.heap[w.heap.size]? = some (.cells #[.int .i64 c.sets, .int .i64 c.ways, .int .i64 c.doms, .int .i64 c.pad, .int .i64 c.quantum, .slice (some ⟨b1, o1, none⟩) c.slots.length n0, .slice a1 c.owners.length n1, .slice a2 c.chans.length n2, .slice a3 c.tasks.length n3] 27) := (hb2.block _ byS).trans (by exact byH)
  have d2 : w2.heap[w.heap.size + 1]? = some (.cells #[.slice T.a0 d.jobs.length T.n0, .slice T.a1 d.released.length T.n1, .int .i64 d.next, .slice T.a2 d.ins.length T.n2, .slice T.a3 d.taken.length T.n3, .slice T.a4 d.outs.length T.n4, .slice T.a5 d.events.length T.n5] 45) := (hb2.block _ byS).trans (by exact byH)
  have r2 : w2.heap[w.heap.size + 2]? = some (.cells #[.slice none 0 0, .slice none 0 0, .int .i64 0, .slice none 0 0, .slice none 0 0, .slice none 0 0, .slice none 0 0] 45) := (hb2.block _ byS).trans (by exact byH)
  have h2 : Below w.heap.size w w2 := byB
  have HT := Lib.hid (refTell G2 w.heap.size w2 d T2 hO2 (fun j b hb => by have := hG2' j b hb; omega) (by omega) t1 1 sn 0 hev)
  have hO2l := Lib.hid hO2.lt
  clear hO2 hG2
  go_wp2_with fail
  go_at_call 57
  refine HT.out.mono ?_
  rintro e w3 ⟨A3, n3', G3, rfl, hO3, hE3⟩
  have c3 := (hE3.keep _ (by omega) (fun j hj => by have := hG2' j _ hj; omega)).trans c2
  have d3 := (hE3.keep _ (by omega) (fun j hj => by have := hG2' j _ hj; omega)).trans d2
  have r3 := (hE3.keep _ (by omega) (fun j hj => by have := hG2' j _ hj; omega)).trans r2
  have s3 := hE3.below.size
  have h3 : Below w.heap.size w w3 := h2.trans hE3.below
  have hG3 : ∀ j b, G3 j b → w.heap.size + 3 ≤ b := fun j b hb => by
    rcases hE3.grow j b hb with h4 | h4
    · exact hG2' j b h4
    · omega
  clear c2 d2 r2 HT hE3 hb2
  obtain ⟨cA, fA, zA⟩ := blk d3
  have hO3' := Lib.hid hO3
  clear hO3
  go_wp2_with fail
  obtain ⟨W4, hW4⟩ : ∃ X, X = (((((((w3.setCell ⟨w.heap.size + 1, 0, none⟩ (.slice T2.a0 d.jobs.length T2.n0)).setCell ⟨w.heap.size + 1, 1, none⟩ (.slice T2.a1 d.released.length T2.n1)).setCell ⟨w.heap.size + 1, 2, none⟩ (.int .i64 d.next)).setCell ⟨w.heap.size + 1, 3, none⟩ (.slice T2.a2 d.ins.length T2.n2)).setCell ⟨w.heap.size + 1, 4, none⟩ (.slice T2.a3 d.taken.length T2.n3)).setCell ⟨w.heap.size + 1, 5, none⟩ (.slice T2.a4 d.outs.length T2.n4)).setCell ⟨w.heap.size + 1, 6, none⟩ (.slice A3 (d.events.length + 1) n3')) := ⟨_, rfl⟩
  rw [← hW4]
  have d4 : W4.heap[w.heap.size + 1]? = some (.cells #[.slice T2.a0 d.jobs.length T2.n0, .slice T2.a1 d.released.length T2.n1, .int .i64 d.next, .slice T2.a2 d.ins.length T2.n2, .slice T2.a3 d.taken.length T2.n3, .slice T2.a4 d.outs.length T2.n4, .slice A3 (d.events.length + 1) n3'] 45) := by rw [hW4]; exact dom_set d3
  have c4 : W4.heap[w.heap.size]? = some (.cells #[.int .i64 c.sets, .int .i64 c.ways, .int .i64 c.doms, .int .i64 c.pad, .int .i64 c.quantum, .slice (some ⟨b1, o1, none⟩) c.slots.length n0, .slice a1 c.owners.length n1, .slice a2 c.chans.length n2, .slice a3 c.tasks.length n3] 27) := by rw [hW4]; exact (dom_far (by omega)).trans c3
  have r4 : W4.heap[w.heap.size + 2]? = some (.cells #[.slice none 0 0, .slice none 0 0, .int .i64 0, .slice none 0 0, .slice none 0 0, .slice none 0 0, .slice none 0 0] 45) := by rw [hW4]; exact (dom_far (by omega)).trans r3
  have h4 : Below w.heap.size w W4 := by rw [hW4]; exact dom_below h3 (by omega)
  have hO4 : DomO G3 W4 { d with events := d.events ++ [⟨t1, 1, sn, 0⟩] } { T2 with a5 := A3, n5 := n3' } := by rw [hW4]; exact hO3'.out.keep (fun j b hb => dom_far (by have := hG3 j b hb; omega)) (by simp)
  have s4 := h4.size
  obtain ⟨cc4, fc4, zc4⟩ := blk c4
  have z4 := (blk d4).2.2
  have zr4 := (blk r4).2.2
  have k4 := KD.out W4 h4
  replace hW4 := Lib.hid hW4
  replace hO4 := Lib.hid hO4
  clear cA fA zA c3 d3 r3 hO3' h3
  go_region_held3 (fun w' => (∀ oo, w'.cell? ⟨w.heap.size, oo, none⟩ = #[.int .i64 c.sets, .int .i64 c.ways, .int .i64 c.doms, .int .i64 c.pad, .int .i64 c.quantum, .slice (some ⟨b1, o1, none⟩) c.slots.length n0, .slice a1 c.owners.length n1, .slice a2 c.chans.length n2, .slice a3 c.tasks.length n3][oo]?) ∧ w'.cell? ⟨b1, o1 + sn * 2, none⟩ = some (.int .i64 (nth c.slots sn).dom)) (((try dsimp only); (repeat' apply And.intro) <;> (first | exact KD.out _ byB | exact fun oo => (Below.cell (B := W4.heap.size) (w := W4) byB (by first | assumption | omega)).trans (cc4 oo) | go_keep | (simp [go_sem, *]; done))))
    ((go_at_call 59; refine (HA1.out _ byB).mono ?_; rintro e w5 ⟨A5, n5, rfl, hns, hb5⟩; have h5 : Below W4.heap.size W4 w5 := byB; have h50 : Below w.heap.size w w5 := h4.trans (h5.mono s4)))
  all_goals
    have d5 := (h5.block _ z4).trans d4
    have r5 := (h5.block _ zr4).trans r4
    have s5 := h5.size
    have hO5 : DomO G3 w5 { d with events := d.events ++ [⟨t1, 1, sn, 0⟩] } { T2 with a5 := A3, n5 := n3' } := hO4.out.keep (fun j b hb => h5.block b (hO4.out.lt j b hb)) s5
    have hnsl : ∀ b, Rng W4.heap.size w5.heap.size b → ∀ j, ¬ G3 j b := fun b hb j hj => by have := hO4.out.lt j b hj; have := hb.1; omega
    have hns : Sl cInt (Rng W4.heap.size w5.heap.size) w5 A5 n5 (cameOf c.owners (nth c.slots sn).dom t0 t1 ar) := hns.mono fun b hb => ⟨hb.1, hb.2⟩
    have HV := Lib.hid (fun i (hi : i < c.owners.length) => show 0 ≤ nth (cameOf c.owners (nth c.slots sn).dom t0 t1 ar) i ∧ nth (cameOf c.owners (nth c.slots sn).dom t0 t1 ar) i ≤ 40 by rw [nth_cameOf hi]; have := cameN_le c.owners (nth c.slots sn).dom t0 t1 ar i; omega)
    have HL := Lib.hid (cameOf_length c.owners (nth c.slots sn).dom t0 t1 ar)
    have HE2 := Lib.hid (show ∀ NS, NS = (cameOf c.owners (nth c.slots sn).dom t0 t1 ar) → upTo (openStep NS) NS.length 0 { d with events := d.events ++ [⟨t1, 1, sn, 0⟩] } = openOf c ar sn d t0 t1 from fun NS e => by subst e; exact HE.out)
    generalize (cameOf c.owners (nth c.slots sn).dom t0 t1 ar) = NS at *
    generalize hd1 : ({ d with events := d.events ++ [⟨t1, 1, sn, 0⟩] } : TDom) = d1 at *
    generalize hT3 : ({ T2 with a5 := A3, n5 := n3' } : TDomS) = T3 at *
    have e1 : d1.taken = d.taken := by rw [← hd1]
    have e2 : w5.heap[w.heap.size + 1]? = some (.cells #[.slice T3.a0 d1.jobs.length T3.n0, .slice T3.a1 d1.released.length T3.n1, .int .i64 d1.next, .slice T3.a2 d1.ins.length T3.n2, .slice T3.a3 d1.taken.length T3.n3, .slice T3.a4 d1.outs.length T3.n4, .slice T3.a5 d1.events.length T3.n5] 45) := by rw [← hd1, ← hT3]; simpa using d5
    have hnl : NS.length ≤ 4 := by rw [HL.out]; exact n4
    replace hd1 := Lib.hid hd1
    replace hT3 := Lib.hid hT3
    replace e1 := Lib.hid e1
    replace hO5 := Lib.hid hO5
    clear d5 d4 c4 r4 k4 cc4 fc4 zc4 HE
    obtain ⟨cA, fA, zA⟩ := blk e2
    go_wp2_with fail
    clear cA fA zA
    go_loopw [14] (fun iv wr => ∃ (i : Nat), i ≤ NS.length ∧ iv = .int .i64 i ∧ Hid (DomO G3 wr (upTo (openStep NS) i 0 d1) T3) ∧ DEff w.heap.size G3 G3 w5 wr) (fun iv _ => NS.length - (intOf iv).toNat)
    case atStart => exact ⟨0, Nat.zero_le _, rfl, hO5, DEff.refl _ _ _⟩
    case round =>
      obtain ⟨i, hi, rfl, hOi, hE⟩ := hrel
      have so := hE.below.size
      have cdw := (hE.keep _ (by omega) (fun j hj => by have := hG3 j _ hj; omega)).trans e2
      have crw := (hE.keep _ (by omega) (fun j hj => by have := hG3 j _ hj; omega)).trans r5
      by_cases hlt2 : i < NS.length
      · obtain ⟨tk, htl, htd⟩ := openTaken_eq NS d1 i 0
        have hti : nth tk i = nth d.taken i := by have := openTaken_at NS d1 i i (Nat.le_refl _); rw [htd, e1.out] at this; exact this
        have hio : i < c.owners.length := by rw [← HL.out]; exact hlt2
        have hid : i < d.taken.length := by rw [hlt.out]; exact hio
        have htl2 : tk.length = d.taken.length := by rw [htl, e1.out]
        have hr1 := HV.out i hio
        have hr2 := htk i hid
        have hOi2 := hOi.out
        rw [htd] at hOi2
        obtain ⟨g3, e3, hG3g, hg3, hc3, hf3, hset⟩ := hOi2.taken (i := i) (by show i < tk.length; omega)
        replace hc3 : wr.cell? ⟨g3, i, none⟩ = some (.int .i64 (nth tk i)) := hc3
        obtain ⟨b9, o9, e9, I9, k9⟩ := (hns.keep (fun b hb => hE.keep b hb.2 (hnsl b hb))).at_int hlt2
        rw [e3] at cdw
        have cdw0 := cdw
        obtain ⟨cX, fX, zX⟩ := blk cdw
        have hw : IntKind.i64.wrap (nth tk i + nth NS i) = nth tk i + nth NS i := IntWalk.i64_in _ (by omega)
        have j0 : (0 : Int) ≤ i := by omega
        have j1 : (i : Int) < NS.length := by omega
        have j2 : (i : Int) < d1.taken.length := by rw [e1.out]; omega
        have hgb := hG3 3 g3 hG3g
        have hn1 : ¬ (w.heap.size + 1 = g3) := by omega
        have hn2 : ¬ (g3 = w.heap.size + 1) := by omega
        have hst : upTo (openStep NS) (i + 1) 0 d1 = { d1 with taken := tk.set i (min 15 (nth tk i + nth NS i)) } := by rw [upTo_last, Nat.zero_add, htd]; rfl
        have hD1 := hset (nth tk i + nth NS i)
        have hS1 : ∀ x, DEff w.heap.size G3 G3 w5 ((wr.drew).setCell ⟨g3, i, none⟩ x) := fun x => hE.trans ⟨Below.setCell ((Below.refl w.heap.size wr).drew) (by show w.heap.size ≤ g3; omega) _, fun b hb hn => heap_set_far rfl (fun e => hn 3 (e ▸ hG3g)), fun _ b hb => .inl hb⟩
        subst e9
        replace e3 := Lib.hid e3
        replace htd := Lib.hid htd
        replace htl := Lib.hid htl
        replace htl2 := Lib.hid htl2
        replace hti := Lib.hid hti
        replace hst := Lib.hid hst
        replace hS1 := Lib.hid hS1
        replace hD1 := Lib.hid hD1
        replace hOi2 := Lib.hid hOi2
        clear hset
        by_cases hgt : 15 < nth tk i + nth NS i
        · have hfin : DomO G3 ((wr.drew.setCell ⟨g3, i, none⟩ (.int .i64 (nth tk i + nth NS i))).setCell ⟨g3, i, none⟩ (.int .i64 15)) (upTo (openStep NS) (i + 1) 0 d1) T3 ∧ DEff w.heap.size G3 G3 w5 ((wr.drew.setCell ⟨g3, i, none⟩ (.int .i64 (nth tk i + nth NS i))).setCell ⟨g3, i, none⟩ (.int .i64 15)) := by
            have h1 : DomO G3 (wr.drew.setCell ⟨g3, i, none⟩ (.int .i64 (nth tk i + nth NS i))) _ T3 := hD1.out.keep (fun _ _ _ => rfl) (Nat.le_refl _)
            obtain ⟨g4, e4, hG4, _, _, _, hset2⟩ := h1.taken (i := i) (by show i < (tk.set i _).length; simp; have := htl2.out; omega)
            obtain rfl : g3 = g4 := by rw [e3.out] at e4; injection e4 with e4; injection e4
            have h2 := hset2 15
            dsimp only at h2
            rw [List.set_set] at h2
            refine ⟨?_, (hS1.out _).trans ⟨Below.setCell (Below.refl w.heap.size _) (by show w.heap.size ≤ g3; omega) _, fun b hb hn => heap_set_far rfl (fun e => hn 3 (e ▸ hG3g)), fun _ b hb => .inl hb⟩⟩
            rw [hst.out, show min 15 (nth tk i + nth NS i) = 15 by omega]
            exact h2
          replace hfin := Lib.hid hfin
          go_wp2_with fail
          (refine wp_region_still_tail 11 (by kernel_rfl) (by kernel_rfl) ?_; simp only [List.take_succ_cons, List.take_zero, List.drop_succ_cons, List.drop_zero]; (iterate 11 (with_reducible refine wpStill_step (fun K hK => ?_); replace hK := Lib.hid hK; go_simp; with_reducible refine hK.out _ ?_; clear hK K)); refine wpStill_nil ?_)
          change wpList _ _ _ _ _ wr.drew
          go_wp2_with fail

          exact ⟨⟨i + 1, by omega, by go_num, Lib.hid hfin.out.1, hfin.out.2⟩, by simp [intOf]; omega⟩
        · have hfin : DomO G3 (wr.drew.setCell ⟨g3, i, none⟩ (.int .i64 (nth tk i + nth NS i))) (upTo (openStep NS) (i + 1) 0 d1) T3 ∧ DEff w.heap.size G3 G3 w5 (wr.drew.setCell ⟨g3, i, none⟩ (.int .i64 (nth tk i + nth NS i))) := by
            have h1 : DomO G3 (wr.drew.setCell ⟨g3, i, none⟩ (.int .i64 (nth tk i + nth NS i))) _ T3 := hD1.out.keep (fun _ _ _ => rfl) (Nat.le_refl _)
            refine ⟨?_, hS1.out _⟩
            rw [hst.out, show min 15 (nth tk i + nth NS i) = nth tk i + nth NS i by omega]
            exact h1
          replace hfin := Lib.hid hfin
          go_wp2_with fail
          (refine wp_region_still_tail 11 (by kernel_rfl) (by kernel_rfl) ?_; simp only [List.take_succ_cons, List.take_zero, List.drop_succ_cons, List.drop_zero]; (iterate 11 (with_reducible refine wpStill_step (fun K hK => ?_); replace hK := Lib.hid hK; go_simp; with_reducible refine hK.out _ ?_; clear hK K)); refine wpStill_nil ?_)
          change wpList _ _ _ _ _ wr.drew
          go_wp2_with fail
          exact ⟨⟨i + 1, by omega, by go_num, Lib.hid hfin.out.1, hfin.out.2⟩, by simp [intOf]; omega⟩
      · obtain rfl : i = NS.length := by omega
        have hO6 := hOi.out
        rw [HE2.out NS rfl] at hO6
        obtain ⟨tk, htl, htd⟩ := openTaken_eq NS d1 NS.length 0
        have htd2 := HE2.out NS rfl
        rw [htd] at htd2
        obtain ⟨cA, fA, zA⟩ := blk cdw
        obtain ⟨cB, fB, zB⟩ := blk crw
        obtain ⟨cR, fR, zR⟩ := blk (dom_set (u0 := .slice T3.a0 d1.jobs.length T3.n0) (u1 := .slice T3.a1 d1.released.length T3.n1) (u2 := .int .i64 d1.next) (u3 := .slice T3.a2 d1.ins.length T3.n2) (u4 := .slice T3.a3 d1.taken.length T3.n3) (u5 := .slice T3.a4 d1.outs.length T3.n4) (u6 := .slice T3.a5 d1.events.length T3.n5) crw)
        have h6 : Below w.heap.size w wr := h50.trans hE.below
        replace htl := Lib.hid htl
        replace htd2 := Lib.hid htd2
        replace hO6 := Lib.hid hO6
        clear htd hOi
        go_wp2_with fail
        refine bodyPost_ret (v := .agg #[.slice T3.a0 d1.jobs.length T3.n0, .slice T3.a1 d1.released.length T3.n1, .int .i64 d1.next, .slice T3.a2 d1.ins.length T3.n2, .slice T3.a3 d1.taken.length T3.n3, .slice T3.a4 d1.outs.length T3.n4, .slice T3.a5 d1.events.length T3.n5]) (by simp [results, Try.results19, go_sem, *]) rfl ?_
        refine ⟨T3, G3, ?_, hO6.out.keep (fun j b hb => dom_far (by have := hG3 j b hb; omega)) (by simp), fun j b hb => by have := hG3 j b hb; omega, dom_below h6 (by omega)⟩
        rw [← htd2.out]
        simp [htl.out]
end Go.Proofs.Ytinlmkhlgclbfab
