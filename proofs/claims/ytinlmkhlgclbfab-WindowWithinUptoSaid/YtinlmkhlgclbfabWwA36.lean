/- WinN -/
import Derived.Test.YtinlmkhlgclbfabWwA35
namespace Go.Proofs.Ytinlmkhlgclbfab
open Go.RowKit
set_option maxRecDepth 100000
set_option maxHeartbeats 8000000

theorem raw_far0 {w : World} {g g' b : Nat} {u0 u1 u2 u3 u4 u5 u6 x : Value} (h : b ≠ g) (h' : b ≠ g') :
    ((((((((w.setCell ⟨g, 0, none⟩ u0).setCell ⟨g, 1, none⟩ u1).setCell ⟨g, 2, none⟩ u2).setCell ⟨g, 3, none⟩ u3).setCell ⟨g, 4, none⟩ u4).setCell ⟨g, 5, none⟩ u5).setCell ⟨g, 6, none⟩ u6).setCell ⟨g', 0, none⟩ x).heap[b]? = w.heap[b]? := heap_set_far (dom_far h) h'
theorem drew_heap (w : World) : w.drew.heap = w.heap := rfl
theorem raw_far {w : World} {g g' b : Nat} {u0 u1 u2 u3 u4 u5 u6 x : Value} (h : b ≠ g) (h' : b ≠ g') :
    ((((((((w.setCell ⟨g, 0, none⟩ u0).setCell ⟨g, 1, none⟩ u1).setCell ⟨g, 2, none⟩ u2).setCell ⟨g, 3, none⟩ u3).setCell ⟨g, 4, none⟩ u4).setCell ⟨g, 5, none⟩ u5).setCell ⟨g, 6, none⟩ u6).setCell ⟨g', 0, none⟩ x).drew.heap[b]? = w.heap[b]? := by rw [drew_heap]; exact raw_far0 h h'
theorem raw_below {B g g' : Nat} {w0 w : World} {u0 u1 u2 u3 u4 u5 u6 x : Value} (h : Below B w0 w) (hg : B ≤ g) (hg' : B ≤ g') :
    Below B w0 (((((((((w.setCell ⟨g, 0, none⟩ u0).setCell ⟨g, 1, none⟩ u1).setCell ⟨g, 2, none⟩ u2).setCell ⟨g, 3, none⟩ u3).setCell ⟨g, 4, none⟩ u4).setCell ⟨g, 5, none⟩ u5).setCell ⟨g, 6, none⟩ u6).setCell ⟨g', 0, none⟩ x).drew) := Below.drew (Below.setCell (dom_below h hg) hg' _)
/-- what a window turns: the domain's blocks, the cache's, what is new -/
structure WEff (B : Nat) (F : Nat → Prop) (G G' : Nat → Nat → Prop) (w w' : World) : Prop where
  below : Below B w w'
  keep : ∀ b, b < w.heap.size → (∀ i, ¬ G i b) → ¬ F b → w'.heap[b]? = w.heap[b]?
  grow : ∀ i b, G' i b → G i b ∨ (w.heap.size ≤ b ∧ b < w'.heap.size)
section
variable {G : Nat → Nat → Prop} {F : Nat → Prop} {B : Nat} {c : TCfg} {S : TCfgS} {m : Int} {d : TDom} {T : TDomS} {k : List (List TWay)} {Ak : Option Addr} {nk : Nat} {ac : List TAct} {Al : Option Addr} {nl : Nat} {from_ to_ : Int}
/-- behind the runner's run -/
def RawMid (G : Nat → Nat → Prop) (F : Nat → Prop) (B : Nat) (c : TCfg) (S : TCfgS) (m : Int) (d : TDom) (k : List (List TWay)) (Ak : Option Addr) (nk : Nat) (ac : List TAct) (Al : Option Addr) (nl : Nat) (to_ : Int) (w W : World) (e : Ending) (w1 : World) : Prop :=
  e = .returned (.tuple #[]) ∧ ∃ G' T', Rn (w.heap.size + 6) (w.heap.size + 5) G' F B w1 c S m d T' k Ak nk ac Al nl to_ to_ ∧ WEff B F G G' w w1 ∧ W.heap.size ≤ w1.heap.size ∧ (∀ b, w.heap.size ≤ b → b < W.heap.size → b ≠ w.heap.size + 6 → b ≠ w.heap.size + 5 → w1.heap[b]? = W.heap[b]?) ∧ ∀ i b, G' i b → b < w.heap.size ∨ W.heap.size ≤ b
def RetRaw (G : Nat → Nat → Prop) (F : Nat → Prop) (B : Nat) (d : TDom) (k : List (List TWay)) (Ak : Option Addr) (nk : Nat) (w : World) (e : Ending) (w' : World) : Prop :=
  ∃ T' G', e = .returned (.tuple #[.agg #[.slice T'.a0 d.jobs.length T'.n0, .slice T'.a1 d.released.length T'.n1, .int .i64 d.next, .slice T'.a2 d.ins.length T'.n2, .slice T'.a3 d.taken.length T'.n3, .slice T'.a4 d.outs.length T'.n4, .slice T'.a5 d.events.length T'.n5], .agg #[.slice Ak k.length nk]]) ∧ DomO G' w' d T' ∧ OCache F w' (.slice Ak k.length nk) k ∧ WEff B F G G' w w' ∧ ∀ i b, G' i b → ¬ F b
theorem windowRaw (hc : CfgOk c) (hl : ac.length ≤ 60) (ha : ∀ i, i < ac.length → ActOk (nth ac i)) (ht : to_ ≤ 100000) (h0 : WinIn c m to_ ⟨from_, d, k⟩) (hev : d.events.length ≤ 4194304) (ho : ∀ j, (nth d.outs j).length ≤ 4194304)
    (w : World) (hB : B ≤ w.heap.size) (hs : TCfg.At (Low B) w c S) (hO : DomO G w d T) (hK : OCache F w (.slice Ak k.length nk) k) (hA : Sl cAct (Low B) w Al nl ac) (hG : ∀ i b, G i b → B ≤ b) (hF : ∀ b, F b → B ≤ b ∧ b < w.heap.size) (hGF : ∀ i b, G i b → ¬ F b) :
    Calls Try.prog 72 #[.agg #[.int .i64 c.sets, .int .i64 c.ways, .int .i64 c.doms, .int .i64 c.pad, .int .i64 c.quantum, .slice S.a0 c.slots.length S.n0, .slice S.a1 c.owners.length S.n1, .slice S.a2 c.chans.length S.n2, .slice S.a3 c.tasks.length S.n3], .int .i64 m, .agg #[.slice T.a0 d.jobs.length T.n0, .slice T.a1 d.released.length T.n1, .int .i64 d.next, .slice T.a2 d.ins.length T.n2, .slice T.a3 d.taken.length T.n3, .slice T.a4 d.outs.length T.n4, .slice T.a5 d.events.length T.n5], .agg #[.slice Ak k.length nk], .slice Al ac.length nl, .int .i64 from_, .int .i64 to_] w (RetRaw G F B (windowD c m d k ac from_ to_) (windowK c m d k ac from_ to_) Ak nk w) := by
  have HR := Lib.hid (fun W (hb : Below w.heap.size w W) (hk : W.heap[w.heap.size + 5]? = some (.cells #[.int .i64 c.sets, .int .i64 c.ways, .int .i64 c.doms, .int .i64 c.pad, .int .i64 c.quantum, .slice S.a0 c.slots.length S.n0, .slice S.a1 c.owners.length S.n1, .slice S.a2 c.chans.length S.n2, .slice S.a3 c.tasks.length S.n3, .int .i64 m, .slice T.a0 d.jobs.length T.n0, .slice T.a1 d.released.length T.n1, .int .i64 d.next, .slice T.a2 d.ins.length T.n2, .slice T.a3 d.taken.length T.n3, .slice T.a4 d.outs.length T.n4, .slice T.a5 d.events.length T.n5] 157)) (hr : W.heap[w.heap.size + 6]? = some (.cells #[.pointer (some ⟨w.heap.size + 5, 0, none⟩), .slice Ak k.length nk, .slice Al ac.length nl, .int .i64 from_, .int .i64 to_] 159)) =>
    (runnerRun (F := F) (B := B) (gr := w.heap.size + 6) (gq := w.heap.size + 5) (w := W)
      ⟨hr, ⟨hk, hs.next hB hb, hO.keep (fun i b hi => hb.block b (hO.lt i b hi)) hb.size, fun i b hi => ⟨by have := hO.lt i b hi; omega, hG i b hi⟩, by omega⟩, OSl.keep hK fun b hf => hb.block b (hF b hf).2, hA.next hB hb, by omega, fun i b hi => by have := hO.lt i b hi; omega, fun b hf => by have := hF b hf; have := hb.size; omega, hGF, by omega⟩ hc hl ha ht h0 hev ho).mono
      fun e w1 ⟨he, G', T', hR, hE⟩ => (⟨he, G', T', hR, ⟨(hb.mono hB).trans hE.below, fun b hb1 hg hf => (hE.keep b (Nat.lt_of_lt_of_le hb1 hb.size) (by omega) (by omega) hg hf).trans (hb.block b hb1), fun i b hi => (hE.grow i b hi).imp id (And.imp_left (Nat.le_trans hb.size))⟩, hE.below.size, fun b h1 h2 h3 h4 => hE.keep b h2 h3 h4 (fun i hi => by have := hO.lt i b hi; omega) fun hf => by have := (hF b hf).2; omega, fun i b hi => (hE.grow i b hi).imp (hO.lt i b) And.left⟩ :
        RawMid G F B c S m (windowD c m d k ac from_ to_) (windowK c m d k ac from_ to_) Ak nk ac Al nl to_ w W e w1))
  generalize windowD c m d k ac from_ to_ = d1 at *
  generalize windowK c m d k ac from_ to_ = k1 at *
  clear hs hO hK hA h0 hev ho ha
  go_enter Try.func72, Try.ntmps72
  go_wp2_with fail
  go_at_call 115
  refine (HR.out _ byB byH byH).mono ?_
  rintro e w1 ⟨rfl, G1, T1, hR1, hE1, hz1, hk1, hg1⟩
  have hsz : w.heap.size + 7 ≤ w1.heap.size := by simpa using hz1
  replace hg1 : ∀ i b, G1 i b → b < w.heap.size ∨ w.heap.size + 7 ≤ b := by simpa using hg1
  replace hg1 := Lib.hid hg1
  have x3 := hk1 (w.heap.size + 3) (by omega) (by simp) (by omega) (by omega)
  have x4 := hk1 (w.heap.size + 4) (by omega) (by simp) (by omega) (by omega)
  have b3 : w1.heap[w.heap.size + 3]? = some (.cells #[.slice none 0 0, .slice none 0 0, .int .i64 0, .slice none 0 0, .slice none 0 0, .slice none 0 0, .slice none 0 0] 45) := x3.trans byH
  have b4 : w1.heap[w.heap.size + 4]? = some (.cells #[.slice none 0 0] 63) := x4.trans byH
  clear x3 x4 hk1 HR
  obtain ⟨cr, fr, zr⟩ := blk hR1.blk
  obtain ⟨ck, fk, zk⟩ := blk hR1.kp.blk
  obtain ⟨c3, f3, z3⟩ := blk b3
  obtain ⟨c4, f4, z4⟩ := blk b4
  replace hR1 := Lib.hid hR1
  replace hE1 := Lib.hid hE1
  go_wp2_with fail
  go_region_held3 (fun w' => (∀ oo, w'.cell? ⟨w.heap.size + 6, oo, none⟩ = #[.pointer (some ⟨w.heap.size + 5, 0, none⟩), .slice Ak k1.length nk, .slice Al ac.length nl, .int .i64 to_, .int .i64 to_][oo]?) ∧ (∀ oo, w'.cell? ⟨w.heap.size + 5, oo, none⟩ = #[.int .i64 c.sets, .int .i64 c.ways, .int .i64 c.doms, .int .i64 c.pad, .int .i64 c.quantum, .slice S.a0 c.slots.length S.n0, .slice S.a1 c.owners.length S.n1, .slice S.a2 c.chans.length S.n2, .slice S.a3 c.tasks.length S.n3, .int .i64 m, .slice T1.a0 d1.jobs.length T1.n0, .slice T1.a1 d1.released.length T1.n1, .int .i64 d1.next, .slice T1.a2 d1.ins.length T1.n2, .slice T1.a3 d1.taken.length T1.n3, .slice T1.a4 d1.outs.length T1.n4, .slice T1.a5 d1.events.length T1.n5][oo]?)) (((try dsimp only); (repeat' apply And.intro) <;> (first | go_keep | (simp [go_sem, *]; done)))) (fail)
  go_wp2_with fail
  have e3 := dom_set (u0 := .slice T1.a0 d1.jobs.length T1.n0) (u1 := .slice T1.a1 d1.released.length T1.n1) (u2 := .int .i64 d1.next) (u3 := .slice T1.a2 d1.ins.length T1.n2) (u4 := .slice T1.a3 d1.taken.length T1.n3) (u5 := .slice T1.a4 d1.outs.length T1.n4) (u6 := .slice T1.a5 d1.events.length T1.n5) b3
  obtain ⟨c9, f9, z9⟩ := blk (heap_set_far (p := ⟨w.heap.size + 4, 0, none⟩) (u := .slice Ak k1.length nk) e3 (by simp))
  obtain ⟨c8, f8, z8⟩ := blk (heap_set_same (i := 0) (u := .slice Ak k1.length nk) ((dom_far (u0 := .slice T1.a0 d1.jobs.length T1.n0) (u1 := .slice T1.a1 d1.released.length T1.n1) (u2 := .int .i64 d1.next) (u3 := .slice T1.a2 d1.ins.length T1.n2) (u4 := .slice T1.a3 d1.taken.length T1.n3) (u5 := .slice T1.a4 d1.outs.length T1.n4) (u6 := .slice T1.a5 d1.events.length T1.n5) (show w.heap.size + 4 ≠ w.heap.size + 3 by omega)).trans b4))
  refine bodyPost_ret (v := .tuple #[.agg #[.slice T1.a0 d1.jobs.length T1.n0, .slice T1.a1 d1.released.length T1.n1, .int .i64 d1.next, .slice T1.a2 d1.ins.length T1.n2, .slice T1.a3 d1.taken.length T1.n3, .slice T1.a4 d1.outs.length T1.n4, .slice T1.a5 d1.events.length T1.n5], .agg #[.slice Ak k1.length nk]]) (by simp [results, Try.results72, go_sem, *]) rfl ?_
  refine ⟨T1, G1, rfl, hR1.out.kp.dom.keep (fun i b hi => raw_far (by have := hg1.out i b hi; omega) (by have := hg1.out i b hi; omega)) (by simp), OSl.keep hR1.out.own fun b hf => raw_far (by have := (hF b hf).2; omega) (by have := (hF b hf).2; omega), ⟨raw_below hE1.out.below (by omega) (by omega), fun b hb hg hf => (raw_far (by omega) (by omega)).trans (hE1.out.keep b hb hg hf), fun i b hi => (hE1.out.grow i b hi).imp id (fun h => ⟨h.1, by simpa using h.2⟩)⟩, hR1.out.FG⟩
end
end Go.Proofs.Ytinlmkhlgclbfab
