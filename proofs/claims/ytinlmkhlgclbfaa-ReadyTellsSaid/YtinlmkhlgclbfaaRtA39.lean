/- RelA -/
import Derived.Test.YtinlmkhlgclbfaaRtA33
namespace Go.Proofs.Ytinlmkhlgclbfaa
open Go.RowKit
set_option maxRecDepth 100000
set_option maxHeartbeats 4000000

/-- what a call turns that is handed a domain of one's own: the domain's rows, and what is new -/
structure DEff (B : Nat) (G G' : Nat → Nat → Prop) (w w' : World) : Prop where
  below : Below B w w'
  keep : ∀ b, b < w.heap.size → (∀ i, ¬ G i b) → w'.heap[b]? = w.heap[b]?
  grow : ∀ i b, G' i b → G i b ∨ (w.heap.size ≤ b ∧ b < w'.heap.size)
theorem DEff.refl (B : Nat) (G : Nat → Nat → Prop) (w : World) : DEff B G G w w := ⟨Below.refl _ _, fun _ _ _ => rfl, fun _ _ h => .inl h⟩
theorem DEff.trans {B : Nat} {G G' G'' : Nat → Nat → Prop} {w w' w'' : World} (h : DEff B G G' w w') (h' : DEff B G' G'' w' w'') : DEff B G G'' w w'' :=
  ⟨h.below.trans h'.below, fun b hb hG => (h'.keep b (Nat.lt_of_lt_of_le hb h.below.size) (fun i hi => by
    rcases h.grow i b hi with h1 | h1
    · exact hG i h1
    · omega)).trans (h.keep b hb hG), fun i b hi => by
    have := h.below.size
    have := h'.below.size
    rcases h'.grow i b hi with h1 | h1
    · rcases h.grow i b h1 with h2 | h2
      · exact .inl h2
      · exact .inr ⟨h2.1, by omega⟩
    · exact .inr ⟨by omega, h1.2⟩⟩
theorem DEff.ext {B : Nat} {G : Nat → Nat → Prop} {w w' : World} (hB : B ≤ w.heap.size) (hb : Below w.heap.size w w') : DEff B G G w w' :=
  ⟨hb.mono hB, fun b hlt _ => hb.block b hlt, fun _ _ h => .inl h⟩
/-- nothing of the caller's turns but what lies at or beyond B -/
theorem DEff.below' {B : Nat} {G G' : Nat → Nat → Prop} {w w' : World} (h : DEff B G G' w w') {N : Nat} (hN : N ≤ w.heap.size) (hG : ∀ i b, G i b → N ≤ b) : Below N w w' :=
  ⟨h.below.os, h.below.tape, h.below.output, h.below.size, fun b hb => h.keep b (by omega) (fun i hi => by have := hG i b hi; omega)⟩

/-- a domain lies in block g, and owns what it reaches; the config lies below B -/
structure Dp (g : Nat) (G : Nat → Nat → Prop) (B : Nat) (w : World) (c : TCfg) (S : TCfgS) (d : TDom) (T : TDomS) : Prop where
  blk : w.heap[g]? = some (.cells #[.slice T.a0 d.jobs.length T.n0, .slice T.a1 d.released.length T.n1, .int .i64 d.next, .slice T.a2 d.ins.length T.n2, .slice T.a3 d.taken.length T.n3, .slice T.a4 d.outs.length T.n4, .slice T.a5 d.events.length T.n5] 90)
  cfg : TCfg.At (Low B) w c S
  dom : DomO G w d T
  apart : ∀ i b, G i b → b ≠ g ∧ B ≤ b
  lo : B ≤ g
theorem Dp.ext {g : Nat} {G : Nat → Nat → Prop} {B : Nat} {w w' : World} {c : TCfg} {S : TCfgS} {d : TDom} {T : TDomS} (h : Dp g G B w c S d T) (hb : Below w.heap.size w w') : Dp g G B w' c S d T := by
  have hz := (Go.Proofs.Ytinlmkhlgclbfaa.blk h.blk).2.2
  exact ⟨(hb.block _ hz).trans h.blk, h.cfg.keep fun b hb' => hb.block b (by simp only [Low] at hb'; have := h.lo; omega), h.dom.keep (fun i b hb' => hb.block b (h.dom.lt i b hb')) hb.size, h.apart, h.lo⟩
theorem Dp.drewN {g : Nat} {G : Nat → Nat → Prop} {B : Nat} {w : World} {c : TCfg} {S : TCfgS} {d : TDom} {T : TDomS} (h : Dp g G B w c S d T) (n : Nat) : Dp g G B (w.drewN n) c S d T := h.ext (below_drewN (Below.refl _ _) n)

/-- an event is told: rows alone -/
theorem dom_events {G : Nat → Nat → Prop} {B : Nat} {w : World} {d : TDom} {T : TDomS} (h : DomO G w d T) (hap : ∀ i b, G i b → B ≤ b) (hB : B ≤ w.heap.size) (ev : TEv) {A : Option Addr} {cc : Nat} {W w3 : World} (hW : Below w.heap.size w W)
    (hown : ownsZ w3 144 4 (.slice A (d.events.length + 1) cc) (d.events.length + 1) (d.events.flatMap TEv.cells ++ ev.cells)) (hg : W.grownBy w3 (rowZ (.slice T.a5 d.events.length T.n5)))
    (hat : ∀ b, rowZ (.slice A (d.events.length + 1) cc) = some b → rowZ (.slice T.a5 d.events.length T.n5) = some b ∨ b = W.heap.size) :
    DomO (addG G 5 W.heap.size w3.heap.size) w3 { d with events := d.events ++ [ev] } { T with a5 := A, n5 := cc } ∧ DEff B G (addG G 5 W.heap.size w3.heap.size) w w3 := by
  have hs3 := hg.size
  have hsW := hW.size
  have hrow : ∀ b, rowZ (.slice T.a5 d.events.length T.n5) = some b → G 5 b := (ozl_flat.1 h.o5).2
  have hold : ∀ b, b < w.heap.size → (¬ G 5 b) → w3.heap[b]? = w.heap[b]? := fun b hb hn =>
    (hg.block b (by omega) (fun e => hn (hrow b e.symm))).trans (hW.block b hb)
  have hD := (h.keep (w' := W) (fun i b hb => hW.block b (h.lt i b hb)) hsW).events (w1 := w3) [ev] (by simp) (by simpa using hown) hg hat
  refine ⟨hD, ⟨?_, fun b hb hn => hold b hb (hn 5), fun i b hb => ?_⟩⟩
  · exact Below.grown (hW.mono hB) hg (by omega) (fun k hk => hap 5 k (hrow k hk))
  · rcases hb with hb | hb
    · exact .inl hb
    · exact .inr ⟨by omega, hb.2.2⟩
theorem refTell (G : Nat → Nat → Prop) (B : Nat) (w : World) (d : TDom) (T : TDomS) (h : DomO G w d T) (hap : ∀ i b, G i b → B ≤ b) (hB : B ≤ w.heap.size) (at_ kind a b : Int) (hn : d.events.length + 1 ≤ 4398046511104) :
    Calls Try.prog 101 #[.agg #[.slice T.a0 d.jobs.length T.n0, .slice T.a1 d.released.length T.n1, .int .i64 d.next, .slice T.a2 d.ins.length T.n2, .slice T.a3 d.taken.length T.n3, .slice T.a4 d.outs.length T.n4, .slice T.a5 d.events.length T.n5], .int .i64 at_, .int .i64 kind, .int .i64 a, .int .i64 b] w fun e w' => ∃ A n G', e = .returned (.agg #[.slice T.a0 d.jobs.length T.n0, .slice T.a1 d.released.length T.n1, .int .i64 d.next, .slice T.a2 d.ins.length T.n2, .slice T.a3 d.taken.length T.n3, .slice T.a4 d.outs.length T.n4, .slice A (d.events.length + 1) n]) ∧
      DomO G' w' { d with events := d.events ++ [⟨at_, kind, a, b⟩] } { T with a5 := A, n5 := n } ∧ DEff B G G' w w' := by
  have HE := fun {A : Option Addr} {cc : Nat} {W w3 : World} => Lib.hid (dom_events h hap hB ⟨at_, kind, a, b⟩ (A := A) (cc := cc) (W := W) (w3 := w3))
  have hown := (ozl_flat.1 h.o5).1
  have hrow := (ozl_flat.1 h.o5).2
  have hlt := Lib.hid h.lt
  have hown : ownsZ w 144 4 (.slice T.a5 d.events.length T.n5) d.events.length (d.events.flatMap TEv.cells) := hown
  have h1e : ∀ u ∈ [Value.int .i64 at_, .int .i64 kind, .int .i64 a, .int .i64 b], u.oneCell' = true := by intro u hu; exact one_ev [⟨at_, kind, a, b⟩] u (by simpa [TEv.cells] using hu)
  replace hown := Lib.hid hown
  clear h
  go_enter Try.func101, Try.ntmps101
  go_wp2_with (at_builtin; refine wpList_appZ rfl (.tmp 12) (.tmp 18) _ rfl tyEv (.slice T.a5 d.events.length T.n5) d.events.length (d.events.flatMap TEv.cells) (by rfl) (ownZ_keep hown.out (fun b hb => Below.block (B := w.heap.size) byB _ (ownZ_lt hown.out b hb))) (some ⟨w.heap.size + 2, 0, none⟩) 1 1 [.int .i64 at_, .int .i64 kind, .int .i64 a, .int .i64 b] (by rfl) byR h1e (by unfold maxLen; omega) (by omega) (fun A3 c3 w3 own3 gr3 at3 => ?_); have z3 : w.heap.size + 3 ≤ w3.heap.size := (by have := gr3.size; simpa using this); have hbA : w3.heap[w.heap.size]? = some (.cells #[.slice T.a0 d.jobs.length T.n0, .slice T.a1 d.released.length T.n1, .int .i64 d.next, .slice T.a2 d.ins.length T.n2, .slice T.a3 d.taken.length T.n3, .slice T.a4 d.outs.length T.n4, .slice T.a5 d.events.length T.n5] 90) := (gr3.block _ byS (fun e => absurd (hlt.out 5 _ (hrow _ e.symm)) (by omega))).trans (by exact byH); have hbB : w3.heap[w.heap.size + 1]? = some (.cells #[.slice none 0 0, .slice none 0 0, .int .i64 0, .slice none 0 0, .slice none 0 0, .slice none 0 0, .slice none 0 0] 90) := (gr3.block _ byS (fun e => absurd (hlt.out 5 _ (hrow _ e.symm)) (by omega))).trans (by exact byH); obtain ⟨cA, fA, zA⟩ := blk hbA; obtain ⟨cB, fB, zB⟩ := blk hbB)
  have hh := (HE (W := ((w.alloc (.cells #[.slice T.a0 d.jobs.length T.n0, .slice T.a1 d.released.length T.n1, .int .i64 d.next, .slice T.a2 d.ins.length T.n2, .slice T.a3 d.taken.length T.n3, .slice T.a4 d.outs.length T.n4, .slice T.a5 d.events.length T.n5] 90)).alloc (.cells #[.slice none 0 0, .slice none 0 0, .int .i64 0, .slice none 0 0, .slice none 0 0, .slice none 0 0, .slice none 0 0] 90)).alloc (.cells #[.int .i64 at_, .int .i64 kind, .int .i64 a, .int .i64 b] 144))).out byB (by simpa [TEv.cells] using own3) gr3 at3
  obtain ⟨hO, hE⟩ := hh
  have hbB2 : (w3.setCell ⟨w.heap.size, 6, none⟩ (.slice A3 (d.events.length + 1) c3)).heap[w.heap.size + 1]? = some (.cells #[.slice none 0 0, .slice none 0 0, .int .i64 0, .slice none 0 0, .slice none 0 0, .slice none 0 0, .slice none 0 0] 90) := heap_set_far hbB (by simp)
  obtain ⟨cR, fR, zR⟩ := blk (dom_set (u0 := .slice T.a0 d.jobs.length T.n0) (u1 := .slice T.a1 d.released.length T.n1) (u2 := .int .i64 d.next) (u3 := .slice T.a2 d.ins.length T.n2) (u4 := .slice T.a3 d.taken.length T.n3) (u5 := .slice T.a4 d.outs.length T.n4) (u6 := .slice A3 (d.events.length + 1) c3) hbB2)
  have hne : ∀ i b, addG G 5 (w.heap.size + 3) w3.heap.size i b → b ≠ w.heap.size ∧ b ≠ w.heap.size + 1 := fun i b hb => by
    rcases hb with hb | hb
    · have := hlt.out i b hb; omega
    · omega
  simp only [World.size_alloc] at hO hE
  refine bodyPost_ret (v := .agg #[.slice T.a0 d.jobs.length T.n0, .slice T.a1 d.released.length T.n1, .int .i64 d.next, .slice T.a2 d.ins.length T.n2, .slice T.a3 d.taken.length T.n3, .slice T.a4 d.outs.length T.n4, .slice A3 (d.events.length + 1) c3]) (by simp [results, Try.results101, go_sem, *]) rfl ?_
  refine ⟨A3, c3, _, rfl, hO.keep (fun i b hb => (dom_far (hne i b hb).2).trans (heap_set_far rfl (hne i b hb).1)) (by simp), ⟨dom_below (hE.below.setCell (by simp; omega) _) (by omega), fun b hb hn => (dom_far (by omega)).trans ((heap_set_far rfl (by simp; omega)).trans (hE.keep b hb hn)), fun i b hb => by simpa using hE.grow i b hb⟩⟩
end Go.Proofs.Ytinlmkhlgclbfaa
