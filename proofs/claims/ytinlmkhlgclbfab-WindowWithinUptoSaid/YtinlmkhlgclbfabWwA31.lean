/- WinI WinJ -/
import Derived.Test.YtinlmkhlgclbfabWwA15
import Derived.Test.YtinlmkhlgclbfabWwA29
import Derived.Test.YtinlmkhlgclbfabWwA30
section
namespace Go.Proofs.Ytinlmkhlgclbfab
open Go.RowKit
set_option maxRecDepth 100000
set_option maxHeartbeats 4000000

section
variable {gr gk : Nat} {G : Nat → Nat → Prop} {F : Nat → Prop} {B : Nat} {w : World} {c : TCfg} {S : TCfgS} {m : Int} {d : TDom} {T : TDomS} {k : List (List TWay)} {Ak : Option Addr} {nk : Nat} {ac : List TAct} {Al : Option Addr} {nl : Nat} {now to_ : Int}
/-- a cell of a job -/
theorem Rn.job (h : Rn gr gk G F B w c S m d T k Ak nk ac Al nl now to_) {i : Nat} (hi : i < d.jobs.length) : ∃ g, T.a0 = some ⟨g, 0, none⟩ ∧ G 0 g ∧ g < w.heap.size ∧ g ≠ gr ∧ g ≠ gk ∧ (∀ j u, (nth d.jobs i).cells[j]? = some u → w.cell? ⟨g, i * 6 + j, none⟩ = some u) ∧ (∀ o, w.frozen? ⟨g, o, none⟩ = false) ∧
    ∀ j u x', j < 6 → TJob.cells x' = (nth d.jobs i).cells.set j u → Rn gr gk G F B (w.setCell ⟨g, i * 6 + j, none⟩ u) c S m { d with jobs := d.jobs.set i x' } T k Ak nk ac Al nl now to_ ∧ REff gr gk B F G G w (w.setCell ⟨g, i * 6 + j, none⟩ u) := by
  obtain ⟨g, e, hG, hg, hc, hf, hset⟩ := h.kp.dom.job hi
  have hap := h.kp.apart 0 g hG
  refine ⟨g, e, hG, hg, h.grG 0 g hG, hap.1, hc, hf, fun j u x' hj hx => ?_⟩
  have hk : ∀ b, b ≠ g → (w.setCell ⟨g, i * 6 + j, none⟩ u).heap[b]? = w.heap[b]? := fun b hb => Below.heap_setCell _ _ _ _ hb
  obtain ⟨h1, h2⟩ := h.kp.turn (hset j u x' hj hx) (hk gk (Ne.symm hap.1)) (Below.setCell (Below.refl _ _) hap.2 _) (by simp) (fun _ _ h => .inl h) fun b _ _ hn => hk b fun e => hn 0 (e ▸ hG)
  exact ⟨h.keeper h1 h2, h2.run⟩
/-- Next = x -/
theorem Rn.next (h : Rn gr gk G F B w c S m d T k Ak nk ac Al nl now to_) (x : Int) : Rn gr gk G F B (w.setCell ⟨gk, 12, none⟩ (.int .i64 x)) c S m { d with next := x } T k Ak nk ac Al nl now to_ ∧ REff gr gk B F G G w (w.setCell ⟨gk, 12, none⟩ (.int .i64 x)) := by
  have hk : ∀ b, b ≠ gk → (w.setCell ⟨gk, 12, none⟩ (.int .i64 x)).heap[b]? = w.heap[b]? := fun b hb => Below.heap_setCell _ _ _ _ hb
  have hlo := h.kp.lo
  have hK : Kp gk G B (w.setCell ⟨gk, 12, none⟩ (.int .i64 x)) c S m { d with next := x } T := by
    refine ⟨?_, h.kp.cfg.keep fun b hb => hk b (by simp only [Low] at hb; omega), ?_, h.kp.apart, h.kp.lo⟩
    · have := heap_set_same (i := 12) (u := .int .i64 x) h.kp.blk
      simpa using this
    · have hD := h.kp.dom.setCell (p := ⟨gk, 12, none⟩) (u := .int .i64 x) fun i hb => (h.kp.apart i gk hb).1 rfl
      exact ⟨hD.o0, hD.o1, hD.o2, hD.o3, hD.o4, hD.o5, hD.dis, hD.lt⟩
  have hE : KEff gk B G G w (w.setCell ⟨gk, 12, none⟩ (.int .i64 x)) := ⟨Below.setCell (Below.refl _ _) hlo _, fun b _ hb _ => hk b hb, fun _ _ h => .inl h⟩
  exact ⟨h.keeper hK hE, hE.run⟩
/-- the cache has turned -/
theorem Rn.cache (h : Rn gr gk G F B w c S m d T k Ak nk ac Al nl now to_) {k' : List (List TWay)} {w' : World} (hl : k'.length = k.length) (hO : OCache F w' (.slice Ak k'.length nk) k') (hE : Only F w w') : Rn gr gk G F B w' c S m d T k' Ak nk ac Al nl now to_ ∧ REff gr gk B F G G w w' := by
  have zk := (Go.Proofs.Ytinlmkhlgclbfab.blk h.kp.blk).2.2
  have zr := (Go.Proofs.Ytinlmkhlgclbfab.blk h.blk).2.2
  have hB := h.hB
  have hk : ∀ b, b < w.heap.size → ¬ F b → w'.heap[b]? = w.heap[b]? := hE.block
  have hkB : ∀ b, b < B → w'.heap[b]? = w.heap[b]? := fun b hb => hk b (by omega) fun hf => by have := (h.grF b hf).2.2.1; omega
  have hK : Kp gk G B w' c S m d T := ⟨(hk gk zk fun hf => (h.grF gk hf).2.1 rfl).trans h.kp.blk, h.kp.cfg.keep fun b hb => hkB b hb, h.kp.dom.keep (fun i b hb => hk b (h.kp.dom.lt i b hb) (h.FG i b hb)) hE.size, h.kp.apart, h.kp.lo⟩
  refine ⟨⟨?_, hK, hO, h.acts.keep fun b hb => hkB b hb, h.grk, h.grG, fun b hb => ⟨(h.grF b hb).1, (h.grF b hb).2.1, (h.grF b hb).2.2.1, Nat.lt_of_lt_of_le (h.grF b hb).2.2.2 hE.size⟩, h.FG, h.lo⟩, ⟨⟨hE.os, hE.tape, hE.output, hE.size, hkB⟩, fun b hb _ _ _ hf => hk b hb hf, fun _ _ h => .inl h⟩⟩
  rw [hl]
  exact (hk gr zr fun hf => (h.grF gr hf).1 rfl).trans h.blk
/-- a job is gone -/
theorem Rn.gone (h : Rn gr gk G F B w c S m d T k Ak nk ac Al nl now to_) {i : Nat} (hi : i < d.jobs.length) {g : Nat} (hg : T.a0 = some ⟨g, 0, none⟩) {W : World} (hK : KeepN w (fun b => b = g) W) (hown : ownsZ W 110 6 (.slice (some ⟨g, 0, none⟩) (d.jobs.length - 1) T.n0) (d.jobs.length - 1) ((d.jobs.eraseIdx i).flatMap TJob.cells)) :
    Rn gr gk G F B (W.setCell ⟨gk, 10, none⟩ (.slice (some ⟨g, 0, none⟩) (d.jobs.length - 1) T.n0)) c S m { d with jobs := d.jobs.eraseIdx i } T k Ak nk ac Al nl now to_ ∧ REff gr gk B F G G w (W.setCell ⟨gk, 10, none⟩ (.slice (some ⟨g, 0, none⟩) (d.jobs.length - 1) T.n0)) := by
  obtain ⟨g', e, hG, hgs, hgr, hgk, _⟩ := h.job hi
  obtain rfl : g = g' := by rw [hg] at e; injection e with e; injection e
  have zk := (Go.Proofs.Ytinlmkhlgclbfab.blk h.kp.blk).2.2
  have hB := h.hB
  have hlo := h.kp.lo
  have hap := h.kp.apart 0 g hG
  have hl : (d.jobs.eraseIdx i).length = d.jobs.length - 1 := List.length_eraseIdx_of_lt hi
  have hb : Below B w W := ⟨hK.2.2.os, hK.2.2.tape, hK.2.2.output, hK.2.1, fun b hb => hK.1 b (by omega) (by omega)⟩
  have hkW : ∀ b, b < w.heap.size → b ≠ g → W.heap[b]? = w.heap[b]? := fun b hb hne => hK.1 b hb hne
  have hk : ∀ b, b < w.heap.size → b ≠ g → b ≠ gk → (W.setCell ⟨gk, 10, none⟩ (.slice (some ⟨g, 0, none⟩) (d.jobs.length - 1) T.n0)).heap[b]? = w.heap[b]? := fun b hb hne hne2 => heap_set_far (hkW b hb hne) hne2
  have hD : DomO G (W.setCell ⟨gk, 10, none⟩ (.slice (some ⟨g, 0, none⟩) (d.jobs.length - 1) T.n0)) { d with jobs := d.jobs.eraseIdx i } T := by
    have h1 := h.kp.dom
    have hr : ∀ j b, j ≠ 0 → G j b → (W.setCell ⟨gk, 10, none⟩ (.slice (some ⟨g, 0, none⟩) (d.jobs.length - 1) T.n0)).heap[b]? = w.heap[b]? := fun j b hj hb =>
      hk b (h1.lt j b hb) (fun e => h1.dis j 0 b hj hb (e ▸ hG)) (h.kp.apart j b hb).1
    refine ⟨?_, h1.o1.keep (hr 1 · (by omega)), h1.o2.keep (hr 2 · (by omega)), h1.o3.keep (hr 3 · (by omega)), h1.o4.keep (hr 4 · (by omega)), h1.o5.keep (hr 5 · (by omega)), h1.dis, fun j b hb => by have := h1.lt j b hb; have := hK.2.1; simp; omega⟩
    refine ozl_flat.2 ⟨?_, fun b hb => ?_⟩
    · rw [hg]
      show ownsZ _ _ 6 (.slice _ (d.jobs.eraseIdx i).length _) (d.jobs.eraseIdx i).length _
      rw [hl]
      refine ownZ_keep hown fun b hb => Below.heap_setCell _ _ _ _ fun e => ?_
      cases hn0 : T.n0 with
      | zero => rw [hn0, rowZ_zero] at hb; cases hb
      | succ n => rw [rowZ_pos (by omega)] at hb; injection hb with hb; exact hgk (hb.trans e)
    · rw [hg] at hb
      cases hn0 : T.n0 with
      | zero => rw [hn0, rowZ_zero] at hb; cases hb
      | succ n => rw [rowZ_pos (by omega)] at hb; injection hb with hb; exact hb ▸ hG
  have hKp : Kp gk G B (W.setCell ⟨gk, 10, none⟩ (.slice (some ⟨g, 0, none⟩) (d.jobs.length - 1) T.n0)) c S m { d with jobs := d.jobs.eraseIdx i } T := by
    refine ⟨?_, h.kp.cfg.keep fun b hb' => ?_, hD, h.kp.apart, hlo⟩
    · have := heap_set_same (i := 10) (u := .slice (some ⟨g, 0, none⟩) (d.jobs.length - 1) T.n0) ((hkW gk zk (Ne.symm hgk)).trans h.kp.blk)
      rw [hl, hg]
      simpa using this
    · have hb' : b < B := hb'
      exact heap_set_far (hb.block b hb') (by simp; omega)
  have hE : KEff gk B G G w (W.setCell ⟨gk, 10, none⟩ (.slice (some ⟨g, 0, none⟩) (d.jobs.length - 1) T.n0)) := ⟨Below.setCell hb hlo _, fun b hb hne hn => hk b hb (fun e => hn 0 (e ▸ hG)) hne, fun _ _ h => .inl h⟩
  exact ⟨h.keeper hKp hE, hE.run⟩
end
end Go.Proofs.Ytinlmkhlgclbfab
end

section
namespace Go.Proofs.Ytinlmkhlgclbfab
open Go.RowKit
set_option maxRecDepth 100000
set_option maxHeartbeats 8000000

section
variable {gr gk : Nat} {G : Nat → Nat → Prop} {F : Nat → Prop} {B : Nat} {w : World} {c : TCfg} {S : TCfgS} {m : Int} {d : TDom} {T : TDomS} {k : List (List TWay)} {Ak : Option Addr} {nk : Nat} {ac : List TAct} {Al : Option Addr} {nl : Nat} {now to_ : Int}
/-- between two steps of do: the action lies in the first block behind w -/
def DoM (gr gk : Nat) (G : Nat → Nat → Prop) (F : Nat → Prop) (B : Nat) (w : World) (c : TCfg) (S : TCfgS) (m : Int) (A0 : Option Addr) (k : List (List TWay)) (Ak : Option Addr) (nk : Nat) (ac : List TAct) (Al : Option Addr) (nl : Nat) (to_ : Int) (a : TAct) (d : TDom) (now : Int) (W : World) : Prop :=
  ∃ G' T', T'.a0 = A0 ∧ Rn gr gk G' F B W c S m d T' k Ak nk ac Al nl now to_ ∧ REff gr gk B F G G' w W ∧ W.heap[w.heap.size]? = some (.cells #[.int .i64 a.kind, .int .i64 a.n, .int .i64 a.value] 65 (0, 0)) ∧ gr < w.heap.size ∧ gk < w.heap.size ∧ (∀ i, ¬ G' i w.heap.size) ∧ ¬ F w.heap.size
variable {A0 : Option Addr} {a : TAct} {W : World}
theorem DoM.turn {d' : TDom} {G2 : Nat → Nat → Prop} {G' : Nat → Nat → Prop} {T' T2 : TDomS} {k2 : List (List TWay)} {now2 : Int} {W2 : World} (h0 : T2.a0 = A0) (hR : Rn gr gk G2 F B W2 c S m d' T2 k2 Ak nk ac Al nl now2 to_) (hE : REff gr gk B F G' G2 W W2) (h : T'.a0 = A0 ∧ Rn gr gk G' F B W c S m d T' k Ak nk ac Al nl now to_ ∧ REff gr gk B F G G' w W ∧ W.heap[w.heap.size]? = some (.cells #[.int .i64 a.kind, .int .i64 a.n, .int .i64 a.value] 65 (0, 0)) ∧ gr < w.heap.size ∧ gk < w.heap.size ∧ (∀ i, ¬ G' i w.heap.size) ∧ ¬ F w.heap.size) :
    DoM gr gk G F B w c S m A0 k2 Ak nk ac Al nl to_ a d' now2 W2 := by
  obtain ⟨_, _, hE0, hx, h1, h2, h3, h4⟩ := h
  have hz := (blk hx).2.2
  refine ⟨G2, T2, h0, hR, hE0.trans hE, (hE.keep _ hz (by omega) (by omega) h3 h4).trans hx, h1, h2, fun i hi => ?_, h4⟩
  rcases hE.grow i _ hi with h5 | h5
  · exact h3 i h5
  · omega
theorem DoM.ext (h : DoM gr gk G F B w c S m A0 k Ak nk ac Al nl to_ a d now W) {W2 : World} (hb : Below W.heap.size W W2) : DoM gr gk G F B w c S m A0 k Ak nk ac Al nl to_ a d now W2 := by
  obtain ⟨G', T', h⟩ := h
  exact DoM.turn h.1 (h.2.1.ext hb) (REff.ext h.2.1.hB hb) h
theorem DoM.ret (h : DoM gr gk G F B w c S m A0 k Ak nk ac Al nl to_ a d now W) {d' : TDom} {e : Ending} {W2 : World} {P : World → Prop} (hr : ∀ {G' T'}, T'.a0 = A0 → Rn gr gk G' F B W c S m d T' k Ak nk ac Al nl now to_ → RetRn gr gk G' F B W c S m d' T'.a0 k Ak nk ac Al nl now to_ e W2) : e = .returned (.tuple #[]) ∧ DoM gr gk G F B w c S m A0 k Ak nk ac Al nl to_ a d' now W2 := by
  obtain ⟨G', T', h⟩ := h
  obtain ⟨he, G2, T2, h0, hR, hE⟩ := hr h.1 h.2.1
  exact ⟨he, DoM.turn (h0.trans h.1) hR hE h⟩
theorem DoM.tell (h : DoM gr gk G F B w c S m A0 k Ak nk ac Al nl to_ a d now W) (t kd x y : Int) (hn : d.events.length + 1 ≤ 4398046511104) :
    Calls Try.prog 147 #[.pointer (some ⟨gk, 0, none⟩), .int .i64 t, .int .i64 kd, .int .i64 x, .int .i64 y] W fun e w' => e = .returned (.tuple #[]) ∧ DoM gr gk G F B w c S m A0 k Ak nk ac Al nl to_ a (tellOf d t kd x y) now w' := by
  obtain ⟨G', T', h⟩ := h
  refine (runnerTell h.2.1 t kd x y hn).mono ?_
  rintro e w' ⟨he, G2, T2, h0, hR, hE⟩
  exact ⟨he, DoM.turn (h0.trans h.1) hR hE h⟩
theorem DoM.setJob {gj : Nat} (h : DoM gr gk G F B w c S m (some ⟨gj, 0, none⟩) k Ak nk ac Al nl to_ a d now W) {i : Nat} (hi : i < d.jobs.length) : gj < W.heap.size ∧ gj ≠ gr ∧ gj ≠ gk ∧ (∀ j u, (nth d.jobs i).cells[j]? = some u → W.cell? ⟨gj, i * 6 + j, none⟩ = some u) ∧ (∀ o, W.frozen? ⟨gj, o, none⟩ = false) ∧
    ∀ j u x', j < 6 → TJob.cells x' = (nth d.jobs i).cells.set j u → DoM gr gk G F B w c S m (some ⟨gj, 0, none⟩) k Ak nk ac Al nl to_ a { d with jobs := d.jobs.set i x' } now (W.setCell ⟨gj, i * 6 + j, none⟩ u) := by
  obtain ⟨G', T', h⟩ := h
  obtain ⟨g, e, hG, hg, h1, h2, hc, hf, hset⟩ := h.2.1.job hi
  obtain rfl : gj = g := by rw [h.1] at e; injection e with e; injection e
  exact ⟨hg, h1, h2, hc, hf, fun j u x' hj hx => DoM.turn h.1 (hset j u x' hj hx).1 (hset j u x' hj hx).2 h⟩
theorem DoM.next (h : DoM gr gk G F B w c S m A0 k Ak nk ac Al nl to_ a d now W) (x : Int) : DoM gr gk G F B w c S m A0 k Ak nk ac Al nl to_ a { d with next := x } now (W.setCell ⟨gk, 12, none⟩ (.int .i64 x)) := by
  obtain ⟨G', T', h⟩ := h
  exact DoM.turn h.1 (h.2.1.next x).1 (h.2.1.next x).2 h
theorem DoM.time (h : DoM gr gk G F B w c S m A0 k Ak nk ac Al nl to_ a d now W) (x : Int) : DoM gr gk G F B w c S m A0 k Ak nk ac Al nl to_ a d x (W.setCell ⟨gr, 3, none⟩ (.int .i64 x)) := by
  obtain ⟨G', T', h⟩ := h
  exact DoM.turn h.1 (h.2.1.time x).1 (h.2.1.time x).2 h
theorem DoM.blocks (h : DoM gr gk G F B w c S m A0 k Ak nk ac Al nl to_ a d now W) : ∃ T' : TDomS, T'.a0 = A0 ∧ W.heap[gr]? = some (.cells #[.pointer (some ⟨gk, 0, none⟩), .slice Ak k.length nk, .slice Al ac.length nl, .int .i64 now, .int .i64 to_] 159 (0, 0)) ∧ W.heap[gk]? = some (.cells #[.int .i64 c.sets, .int .i64 c.ways, .int .i64 c.doms, .int .i64 c.pad, .int .i64 c.quantum, .slice S.a0 c.slots.length S.n0, .slice S.a1 c.owners.length S.n1, .slice S.a2 c.chans.length S.n2, .slice S.a3 c.tasks.length S.n3, .int .i64 m, .slice T'.a0 d.jobs.length T'.n0, .slice T'.a1 d.released.length T'.n1, .int .i64 d.next, .slice T'.a2 d.ins.length T'.n2, .slice T'.a3 d.taken.length T'.n3, .slice T'.a4 d.outs.length T'.n4, .slice T'.a5 d.events.length T'.n5] 157 (0, 0)) ∧ W.heap[w.heap.size]? = some (.cells #[.int .i64 a.kind, .int .i64 a.n, .int .i64 a.value] 65 (0, 0)) := by
  obtain ⟨G', T', h⟩ := h
  exact ⟨T', h.1, h.2.1.blk, h.2.1.kp.blk, h.2.2.2.1⟩
theorem runnerHappen (h : Rn gr gk G F B w c S m d T k Ak nk ac Al nl now to_) (hc : CfgOk c) {i : Nat} (hd : DomOkI c m i d) (a : TAct) (ha : ActOk a) (cost : Int) (hr : refusedA c m a = false) (hnow : 0 ≤ now ∧ now ≤ 1000000) (hn : d.events.length + 1 ≤ 4398046511104) (ho : ∀ j, j < d.outs.length → (nth d.outs j).length + 1 ≤ 4398046511104) :
    Calls Try.prog 152 #[.pointer (some ⟨gr, 0, none⟩), .agg #[.int .i64 a.kind, .int .i64 a.n, .int .i64 a.value], .int .i64 cost] w (RetRn gr gk G F B w c S m (happenA c now a cost d) T.a0 k Ak nk ac Al nl now to_) := by
  have h1 := ha.kind
  have hnm := ha.name
  have hq := hc.quantum
  by_cases k3 : a.kind ≤ 3
  · exact runnerHappen_tell h a ha cost k3 hn
  by_cases k4 : a.kind = 4
  · have h0 := hnm (.inl k4)
    unfold refusedA at hr
    rw [if_pos k4, Bool.or_eq_false_iff] at hr
    have h2 := hr.1
    simp only [decide_eq_false_iff_not] at h2
    have hlt : a.n.toNat < d.outs.length := by rw [hd.lout]; omega
    exact runnerHappen_four h a ha cost k4 hlt hn (ho _ hlt)
  by_cases k5 : a.kind = 5
  · have h0 := hnm (.inr (.inl k5))
    unfold refusedA at hr
    rw [if_neg k4, if_pos k5, Bool.or_eq_false_iff] at hr
    have h2 := hr.1
    simp only [decide_eq_false_iff_not] at h2
    have hlt : a.n.toNat < d.ins.length := by rw [hd.lin]; omega
    have h3 := (checkRing_zero.1 (hd.ring _ hlt))
    exact runnerHappen_five h a ha cost k5 hlt hn (by omega)
  by_cases k6 : a.kind = 6
  · exact runnerHappen_six h a ha cost k6 (by omega) hnow.1 hnow.2 hn
  by_cases k7 : a.kind = 7
  · have h0 := hnm (.inr (.inr k7))
    unfold refusedA at hr
    rw [if_neg k4, if_neg k5, if_pos k7, Bool.or_eq_false_iff] at hr
    have h2 := hr.1
    simp only [decide_eq_false_iff_not] at h2
    exact runnerHappen_seven h a ha cost k7 (by rw [hd.ltak]; omega) hn
  exact runnerHappen_eight h a ha cost (by omega)
theorem DoM.happen (h : DoM gr gk G F B w c S m A0 k Ak nk ac Al nl to_ a d now W) (hc : CfgOk c) {i : Nat} (hd : DomOkI c m i d) (ha : ActOk a) (cost : Int) (hr : refusedA c m a = false) (hnow : 0 ≤ now ∧ now ≤ 1000000) (hn : d.events.length + 1 ≤ 4398046511104) (ho : ∀ j, j < d.outs.length → (nth d.outs j).length + 1 ≤ 4398046511104) :
    Calls Try.prog 152 #[.pointer (some ⟨gr, 0, none⟩), .agg #[.int .i64 a.kind, .int .i64 a.n, .int .i64 a.value], .int .i64 cost] W fun e w' => e = .returned (.tuple #[]) ∧ DoM gr gk G F B w c S m A0 k Ak nk ac Al nl to_ a (happenA c now a cost d) now w' := by
  obtain ⟨G', T', h⟩ := h
  refine (runnerHappen h.2.1 hc hd a ha cost hr hnow hn ho).mono ?_
  rintro e w' ⟨he, G2, T2, h0, hR, hE⟩
  exact ⟨he, DoM.turn (h0.trans h.1) hR hE h⟩
theorem DoM.refused (h : DoM gr gk G F B w c S m A0 k Ak nk ac Al nl to_ a d now W) (hc : CfgOk c) (ha : ActOk a) :
    Calls Try.prog 151 #[.pointer (some ⟨gr, 0, none⟩), .agg #[.int .i64 a.kind, .int .i64 a.n, .int .i64 a.value]] W fun e w' => e = .returned (.bool (refusedA c m a)) ∧ DoM gr gk G F B w c S m A0 k Ak nk ac Al nl to_ a d now w' := by
  have h' := h
  obtain ⟨G', T', h⟩ := h
  refine (runnerRefused h.2.1 hc a ha).mono ?_
  rintro e w' ⟨he, hb⟩
  exact ⟨he, h'.ext hb⟩
theorem DoM.spend (h : DoM gr gk G F B w c S m A0 k Ak nk ac Al nl to_ a d now W) (ok : CacheOk k) (ha : ActOk a) :
    Calls Try.prog 66 #[.agg #[.slice Ak k.length nk], .agg #[.int .i64 a.kind, .int .i64 a.n, .int .i64 a.value]] W fun e w' => e = .returned (.int .i64 (spendN k a)) ∧ DoM gr gk G F B w c S m A0 (spendK k a) Ak nk ac Al nl to_ a d now w' := by
  obtain ⟨G', T', h⟩ := h
  refine (windowSpend k ok a ha Ak nk F W h.2.1.own fun b hb => (h.2.1.grF b hb).2.2.2).mono ?_
  rintro e w' ⟨he, hO, hE⟩
  have hR := h.2.1.cache (spendK_len k a) (by rw [spendK_len]; exact hO) hE
  exact ⟨he, DoM.turn h.1 hR.1 hR.2 h⟩
theorem DoM.start (h : Rn gr gk G F B w c S m d T k Ak nk ac Al nl now to_) (hx : W.heap[w.heap.size]? = some (.cells #[.int .i64 a.kind, .int .i64 a.n, .int .i64 a.value] 65 (0, 0))) (hb : Below w.heap.size w W) : DoM gr gk G F B w c S m T.a0 k Ak nk ac Al nl to_ a d now W :=
  ⟨G, T, rfl, h.ext hb, REff.ext h.hB hb, hx, (Go.Proofs.Ytinlmkhlgclbfab.blk h.blk).2.2, (Go.Proofs.Ytinlmkhlgclbfab.blk h.kp.blk).2.2, fun i hi => Nat.lt_irrefl _ (h.kp.dom.lt i _ hi), fun hf => Nat.lt_irrefl _ (h.grF _ hf).2.2.2⟩
end
end Go.Proofs.Ytinlmkhlgclbfab
end
