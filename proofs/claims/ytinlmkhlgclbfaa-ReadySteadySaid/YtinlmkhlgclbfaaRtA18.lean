/- DomV -/
import Derived.Test.YtinlmkhlgclbfaaRtA17
namespace Go.Proofs.Ytinlmkhlgclbfaa
open Go.RowKit
set_option maxRecDepth 100000
set_option maxHeartbeats 4000000

/-- the world has grown; all that was there is as it was -/
structure Ext (W W' : World) : Prop where
  at_ : ∀ b, b < W.heap.size → W'.heap[b]? = W.heap[b]?
  size : W.heap.size ≤ W'.heap.size
theorem Ext.alloc (W : World) (o : Obj) : Ext W (W.alloc o) := ⟨fun b hb => heap_alloc_old _ _ hb, by simp⟩
theorem Ext.grown {W W' : World} (h : W.grownBy W' none) : Ext W W' := ⟨fun b hb => h.block b hb (fun e => by cases e), h.size⟩
theorem Ext.below {W W' : World} (h : Below W.heap.size W W') : Ext W W' := ⟨fun b hb => h.block b hb, h.size⟩
theorem Ext.blk {W W' : World} (h : Ext W W') {b : Nat} {o : Obj} (hb : W.heap[b]? = some o) : W'.heap[b]? = some o := (h.at_ b (Array.getElem?_eq_some_iff.1 hb).1).trans hb
theorem ownsZ_type {w : World} {E : TypeId} {size : Nat} {v : Value} {n : Nat} {xs : List Value} (h : ownsZ w E size v n xs) {b : Nat} (hb : rowZ v = some b) : ∃ cur, w.heap[b]? = some (.cells cur E (0, 0)) := by
  rcases h with ⟨_, ⟨rfl, _⟩ | ⟨g, cap, cur, rfl, _, hh, _⟩⟩ | ⟨_, _, a, rfl⟩
  · cases hb
  · have := rowZ_own hb
    simp [Value.ownBlock] at this
    subst this
    exact ⟨cur, hh⟩
  · cases hb
/-- a row that was made since the heap had s0 blocks -/
def RzN (s0 : Nat) (W : World) (E : TypeId) (size : Nat) (v : Value) (n : Nat) (xs : List Value) : Prop := ∃ A c, v = .slice A n c ∧ ownsZ W E size v n xs ∧ ∀ b, rowZ v = some b → s0 ≤ b ∧ b < W.heap.size
theorem RzN.lt {s0 : Nat} {W : World} {E : TypeId} {size : Nat} {v : Value} {n : Nat} {xs : List Value} (h : RzN s0 W E size v n xs) : ∀ b, rowZ v = some b → b < W.heap.size := by
  obtain ⟨A, c, _, _, h⟩ := h
  exact fun b hb => (h b hb).2
theorem RzN.lo {s0 : Nat} {W : World} {E : TypeId} {size : Nat} {v : Value} {n : Nat} {xs : List Value} (h : RzN s0 W E size v n xs) : ∀ b, rowZ v = some b → s0 ≤ b := by
  obtain ⟨A, c, _, _, h⟩ := h
  exact fun b hb => (h b hb).1
theorem cell_heapD {w w' : World} {b : Nat} (h : w'.heap[b]? = w.heap[b]?) (o : Nat) : w'.cell? ⟨b, o, none⟩ = w.cell? ⟨b, o, none⟩ := by
  unfold World.cell?; simp only [h]
/-- all below N but one block -/
def ExcD (g N : Nat) : Nat → Prop := fun b => b ≠ g ∧ b < N
theorem RzN.ext {s0 : Nat} {W W' : World} {E : TypeId} {size : Nat} {v : Value} {n : Nat} {xs : List Value} (h : RzN s0 W E size v n xs) (he : Ext W W') : RzN s0 W' E size v n xs := by
  obtain ⟨A, c, h1, h2, h3⟩ := h
  exact ⟨A, c, h1, ownZ_keep h2 fun b hb => he.at_ b (h3 b hb).2, fun b hb => ⟨(h3 b hb).1, Nat.lt_of_lt_of_le (h3 b hb).2 he.size⟩⟩
theorem RzN.keep {s0 : Nat} {W W' : World} {E : TypeId} {size : Nat} {v : Value} {n : Nat} {xs : List Value} (h : RzN s0 W E size v n xs) (hk : ∀ b, rowZ v = some b → W'.heap[b]? = W.heap[b]?) (hs : W.heap.size ≤ W'.heap.size) : RzN s0 W' E size v n xs := by
  obtain ⟨A, c, h1, h2, h3⟩ := h
  exact ⟨A, c, h1, ownZ_keep h2 hk, fun b hb => ⟨(h3 b hb).1, Nat.lt_of_lt_of_le (h3 b hb).2 hs⟩⟩
/-- the domain's own block is stored to: its type is another -/
theorem RzN.dom {s0 g : Nat} {W : World} {E Ed : TypeId} {size : Nat} {v : Value} {n : Nat} {xs : List Value} {cs : Array Value} {u0 u1 u2 u3 u4 u5 u6 : Value} (h : RzN s0 W E size v n xs) (hg : W.heap[g]? = some (.cells cs Ed (0, 0))) (hE : E ≠ Ed) :
    RzN s0 (((((((W.setCell ⟨g, 0, none⟩ u0).setCell ⟨g, 1, none⟩ u1).setCell ⟨g, 2, none⟩ u2).setCell ⟨g, 3, none⟩ u3).setCell ⟨g, 4, none⟩ u4).setCell ⟨g, 5, none⟩ u5).setCell ⟨g, 6, none⟩ u6) E size v n xs := by
  have h' := h
  obtain ⟨A, c, h1, h2, h3⟩ := h
  refine h'.keep (fun b hb => dom_far ?_) (by simp)
  rintro rfl
  obtain ⟨cur, hc⟩ := ownsZ_type h2 hb
  rw [hg] at hc
  injection hc with hc; injection hc with _ hc
  exact hE hc.symm

/-- lengths that memory can bear -/
structure DomSz (d : TDom) : Prop where
  jobs : d.jobs.length * 40 ≤ 140737488355328
  rel : d.released.length * 8 ≤ 140737488355328
  ins : d.ins.length * 32 ≤ 140737488355328
  vals : ∀ i, i < d.ins.length → (nth d.ins i).vals.length * 8 ≤ 140737488355328
  taken : d.taken.length * 8 ≤ 140737488355328
  outs : d.outs.length * 24 ≤ 140737488355328
  out : ∀ i, i < d.outs.length → (nth d.outs i).length * 8 ≤ 140737488355328
  ev : d.events.length * 32 ≤ 140737488355328

theorem dom_cells {w : World} {g : Nat} {t : TypeId} {v0 v1 v2 v3 v4 v5 v6 u0 u1 u2 u3 u4 u5 u6 : Value} (h : w.heap[g]? = some (.cells #[v0, v1, v2, v3, v4, v5, v6] t (0, 0))) :
    ∀ oo, (((((((w.setCell ⟨g, 0, none⟩ u0).setCell ⟨g, 1, none⟩ u1).setCell ⟨g, 2, none⟩ u2).setCell ⟨g, 3, none⟩ u3).setCell ⟨g, 4, none⟩ u4).setCell ⟨g, 5, none⟩ u5).setCell ⟨g, 6, none⟩ u6).cell? ⟨g, oo, none⟩ = #[u0, u1, u2, u3, u4, u5, u6][oo]? := (blk (dom_set h)).1
theorem copy_end {d : TDom} {w W W2 W3 W4 : World} {g : Nat} {A0 A1 A2 A3 A4 A5 : Option Addr} {c0 c1 c2 c3 c4 c5 : Nat} {csg : Array Value} (hg : W.heap[g]? = some (.cells csg 90 (0, 0)))
    (o0 : ownsZ W 106 6 (.slice A0 d.jobs.length c0) d.jobs.length (d.jobs.flatMap TJob.cells)) (r0 : ∀ b, rowZ (.slice A0 d.jobs.length c0) = some b → w.heap.size + 2 ≤ b ∧ b < W.heap.size)
    (o1 : ownsZ W 3 1 (.slice A1 d.released.length c1) d.released.length (d.released.flatMap fun n => [Value.int .i64 n])) (r1 : ∀ b, rowZ (.slice A1 d.released.length c1) = some b → w.heap.size + 2 ≤ b ∧ b < W.heap.size)
    (o3 : ownsZ W 3 1 (.slice A3 d.taken.length c3) d.taken.length (d.taken.flatMap fun n => [Value.int .i64 n])) (r3 : ∀ b, rowZ (.slice A3 d.taken.length c3) = some b → w.heap.size + 2 ≤ b ∧ b < W.heap.size)
    (o5 : ownsZ W 144 4 (.slice A5 d.events.length c5) d.events.length (d.events.flatMap TEv.cells)) (r5 : ∀ b, rowZ (.slice A5 d.events.length c5) = some b → w.heap.size + 2 ≤ b ∧ b < W.heap.size)
    (h13 : ∀ b, rowZ (.slice A3 d.taken.length c3) = some b → rowZ (.slice A1 d.released.length c1) ≠ some b)
    (k1 : KeepI (ExcD g W.heap.size) W W2) (s1 : W.heap.size ≤ W2.heap.size) (h2 : OZl oRing 24 (Rng W.heap.size W2.heap.size) W2 (.slice A2 d.ins.length c2) d.ins)
    (k2 : KeepI (ExcD g W2.heap.size) W2 W3) (s2 : W2.heap.size ≤ W3.heap.size) (h4 : OZl oInts 22 (Rng W2.heap.size W3.heap.size) W3 (.slice A4 d.outs.length c4) d.outs)
    (k3 : ∀ b, w.heap.size + 2 ≤ b → W4.heap[b]? = W3.heap[b]?) (s3 : W3.heap.size ≤ W4.heap.size) (hWs : w.heap.size + 2 ≤ W.heap.size) (hB : Below w.heap.size w W4) :
    RetDom d w (.returned (.agg #[.slice A0 d.jobs.length c0, .slice A1 d.released.length c1, .int .i64 d.next, .slice A2 d.ins.length c2, .slice A3 d.taken.length c3, .slice A4 d.outs.length c4, .slice A5 d.events.length c5])) W4 := by
  have zg := (blk hg).2.2
  have ty : ∀ {E : TypeId} {size : Nat} {v : Value} {n : Nat} {xs : List Value}, ownsZ W E size v n xs → E ≠ 90 → ∀ b, rowZ v = some b → b ≠ g := by
    intro E size v n xs h hE b hb e
    obtain ⟨cur, hc⟩ := ownsZ_type h hb
    rw [e, hg] at hc
    injection hc with hc; injection hc with _ hc
    exact hE hc.symm
  have two : ∀ {E E' : TypeId} {size size' : Nat} {v v' : Value} {n n' : Nat} {xs xs' : List Value}, ownsZ W E size v n xs → ownsZ W E' size' v' n' xs' → E ≠ E' → ∀ b, rowZ v = some b → rowZ v' ≠ some b := by
    intro E E' size size' v v' n n' xs xs' h h' hE b hb hb'
    obtain ⟨cur, hc⟩ := ownsZ_type h hb
    obtain ⟨cur', hc'⟩ := ownsZ_type h' hb'
    rw [hc] at hc'
    injection hc' with hc'; injection hc' with _ hc'
    exact hE hc'
  have kW : ∀ b, w.heap.size + 2 ≤ b → b < W.heap.size → b ≠ g → W4.heap[b]? = W.heap[b]? := fun b h1 h2 h3 => ((k3 b h1).trans (k2 b ⟨h3, by omega⟩)).trans (k1 b ⟨h3, h2⟩)
  have kk : ∀ {E : TypeId} {size : Nat} {v : Value} {n : Nat} {xs : List Value}, ownsZ W E size v n xs → E ≠ 90 → (∀ b, rowZ v = some b → w.heap.size + 2 ≤ b ∧ b < W.heap.size) → ownsZ W4 E size v n xs := fun h hE hr => ownZ_keep h fun b hb => kW b (hr b hb).1 (hr b hb).2 (ty h hE b hb)
  have t0 := two o0 o1 (by decide); have t03 := two o0 o3 (by decide); have t05 := two o0 o5 (by decide); have t15 := two o1 o5 (by decide); have t35 := two o3 o5 (by decide)
  refine ⟨⟨A0, c0, A1, c1, A2, c2, A3, c3, A4, c4, A5, c5⟩, fun i b => (i = 0 ∧ rowZ (.slice A0 d.jobs.length c0) = some b) ∨ (i = 1 ∧ rowZ (.slice A1 d.released.length c1) = some b) ∨ (i = 2 ∧ W.heap.size ≤ b ∧ b < W2.heap.size) ∨ (i = 3 ∧ rowZ (.slice A3 d.taken.length c3) = some b) ∨ (i = 4 ∧ W2.heap.size ≤ b ∧ b < W3.heap.size) ∨ (i = 5 ∧ rowZ (.slice A5 d.events.length c5) = some b), rfl, ⟨?_, ?_, ?_, ?_, ?_, ?_, ?_, ?_⟩, ?_, hB⟩
  · exact ozl_flat.2 ⟨kk o0 (by decide) r0, fun b hb => by simp [hb]⟩
  · exact ozl_flat.2 ⟨kk o1 (by decide) r1, fun b hb => by simp [hb]⟩
  · exact (h2.keep fun b hb => (k3 b (by have := hb.1; omega)).trans (k2 b ⟨by have := hb.1; omega, hb.2⟩)).mono fun b hb => by simp [hb.1, hb.2]
  · exact ozl_flat.2 ⟨kk o3 (by decide) r3, fun b hb => by simp [hb]⟩
  · exact (h4.keep fun b hb => k3 b (by have := hb.1; omega)).mono fun b hb => by simp [hb.1, hb.2]
  · exact ozl_flat.2 ⟨kk o5 (by decide) r5, fun b hb => by simp [hb]⟩
  · intro i j b hij h1 h2
    rcases h1 with ⟨rfl, h1⟩ | ⟨rfl, h1⟩ | ⟨rfl, h1⟩ | ⟨rfl, h1⟩ | ⟨rfl, h1⟩ | ⟨rfl, h1⟩ <;> rcases h2 with ⟨rfl, h2⟩ | ⟨rfl, h2⟩ | ⟨rfl, h2⟩ | ⟨rfl, h2⟩ | ⟨rfl, h2⟩ | ⟨rfl, h2⟩ <;>
      first
        | exact absurd rfl hij
        | omega
        | (have := r0 b h1; omega) | (have := r1 b h1; omega) | (have := r3 b h1; omega) | (have := r5 b h1; omega)
        | (have := r0 b h2; omega) | (have := r1 b h2; omega) | (have := r3 b h2; omega) | (have := r5 b h2; omega)
        | exact t0 b h1 h2 | exact t0 b h2 h1 | exact t03 b h1 h2 | exact t03 b h2 h1 | exact t05 b h1 h2 | exact t05 b h2 h1 | exact t15 b h1 h2 | exact t15 b h2 h1 | exact t35 b h1 h2 | exact t35 b h2 h1 | exact h13 b h1 h2 | exact h13 b h2 h1
  · intro i b h
    rcases h with ⟨rfl, h⟩ | ⟨rfl, h⟩ | ⟨rfl, h⟩ | ⟨rfl, h⟩ | ⟨rfl, h⟩ | ⟨rfl, h⟩
    · have := r0 b h; omega
    · have := r1 b h; omega
    · omega
    · have := r3 b h; omega
    · omega
    · have := r5 b h; omega
  · intro i b h
    rcases h with ⟨rfl, h⟩ | ⟨rfl, h⟩ | ⟨rfl, h⟩ | ⟨rfl, h⟩ | ⟨rfl, h⟩ | ⟨rfl, h⟩
    · have := r0 b h; omega
    · have := r1 b h; omega
    · have := (blk hg).2.2; have := hB.size; have := (r0); omega
    · have := r3 b h; omega
    · omega
    · have := r5 b h; omega
end Go.Proofs.Ytinlmkhlgclbfaa
