/- KeepA KeepB -/
import Derived.Test.YtinlmkhlgclbfaaRtA18
import Derived.Test.YtinlmkhlgclbfaaRtA20
section
namespace Go.Proofs.Ytinlmkhlgclbfaa
open Go.RowKit
set_option maxRecDepth 100000
set_option maxHeartbeats 4000000

/-- a keeper lies in block gk, its domain owns what it reaches, the config lies below B -/
structure Kp (gk : Nat) (G : Nat → Nat → Prop) (B : Nat) (w : World) (c : TCfg) (S : TCfgS) (m : Int) (d : TDom) (T : TDomS) : Prop where
  blk : w.heap[gk]? = some (.cells #[.int .i64 c.sets, .int .i64 c.ways, .int .i64 c.doms, .int .i64 c.pad, .int .i64 c.quantum, .slice S.a0 c.slots.length S.n0, .slice S.a1 c.owners.length S.n1, .slice S.a2 c.chans.length S.n2, .slice S.a3 c.tasks.length S.n3, .int .i64 m, .slice T.a0 d.jobs.length T.n0, .slice T.a1 d.released.length T.n1, .int .i64 d.next, .slice T.a2 d.ins.length T.n2, .slice T.a3 d.taken.length T.n3, .slice T.a4 d.outs.length T.n4, .slice T.a5 d.events.length T.n5] 140)
  cfg : TCfg.At (Low B) w c S
  dom : DomO G w d T
  apart : ∀ i b, G i b → b ≠ gk ∧ B ≤ b
  lo : B ≤ gk
/-- what a call of a keeper's method turns: the keeper's block, the domain's, what is new -/
structure KEff (gk B : Nat) (G G' : Nat → Nat → Prop) (w w' : World) : Prop where
  below : Below B w w'
  keep : ∀ b, b < w.heap.size → b ≠ gk → (∀ i, ¬ G i b) → w'.heap[b]? = w.heap[b]?
  grow : ∀ i b, G' i b → G i b ∨ (w.heap.size ≤ b ∧ b < w'.heap.size)
theorem KEff.refl (gk B : Nat) (G : Nat → Nat → Prop) (w : World) : KEff gk B G G w w := ⟨Below.refl _ _, fun _ _ _ _ => rfl, fun _ _ h => .inl h⟩
theorem KEff.trans {gk B : Nat} {G G' G'' : Nat → Nat → Prop} {w w' w'' : World} (h : KEff gk B G G' w w') (h' : KEff gk B G' G'' w' w'') : KEff gk B G G'' w w'' :=
  ⟨h.below.trans h'.below, fun b hb hne hG => (h'.keep b (Nat.lt_of_lt_of_le hb h.below.size) hne (fun i hi => by
    rcases h.grow i b hi with h1 | h1
    · exact hG i h1
    · omega)).trans (h.keep b hb hne hG), fun i b hi => by
    have := h.below.size
    have := h'.below.size
    rcases h'.grow i b hi with h1 | h1
    · rcases h.grow i b h1 with h2 | h2
      · exact .inl h2
      · exact .inr ⟨h2.1, by omega⟩
    · exact .inr ⟨by omega, h1.2⟩⟩
theorem Kp.drewN {gk : Nat} {G : Nat → Nat → Prop} {B : Nat} {w : World} {c : TCfg} {S : TCfgS} {m : Int} {d : TDom} {T : TDomS} (h : Kp gk G B w c S m d T) (n : Nat) : Kp gk G B (w.drewN n) c S m d T :=
  ⟨h.blk, h.cfg.keep fun _ _ => rfl, h.dom.keep (fun _ _ _ => rfl) (Nat.le_refl _), h.apart, h.lo⟩
theorem Kp.ext {gk : Nat} {G : Nat → Nat → Prop} {B : Nat} {w w' : World} {c : TCfg} {S : TCfgS} {m : Int} {d : TDom} {T : TDomS} (h : Kp gk G B w c S m d T) (hb : Below w.heap.size w w') : Kp gk G B w' c S m d T := by
  have hz := (Go.Proofs.Ytinlmkhlgclbfaa.blk h.blk).2.2
  exact ⟨(hb.block _ hz).trans h.blk, h.cfg.keep fun b hb' => hb.block b (by simp only [Low] at hb'; have := h.lo; omega), h.dom.keep (fun i b hb' => hb.block b (h.dom.lt i b hb')) hb.size, h.apart, h.lo⟩
theorem KEff.ext {gk B : Nat} {G : Nat → Nat → Prop} {w w' : World} (hB : B ≤ w.heap.size) (hb : Below w.heap.size w w') : KEff gk B G G w w' :=
  ⟨hb.mono hB, fun b hlt _ _ => hb.block b hlt, fun _ _ h => .inl h⟩

theorem keeperNext (gk : Nat) (G : Nat → Nat → Prop) (B : Nat) (w : World) (c : TCfg) (S : TCfgS) (m : Int) (d : TDom) (T : TDomS) (h : Kp gk G B w c S m d T) (i : Nat) (hi : i < c.tasks.length) (hl : i < d.released.length)
    (hp : 0 ≤ (nth c.tasks i).period ∧ (nth c.tasks i).period ≤ 5000) (hr : 0 ≤ nth d.released i ∧ nth d.released i ≤ 100000) (h6 : c.tasks.length ≤ 6) :
    Calls Try.prog 122 #[.pointer (some ⟨gk, 0, none⟩), .int .i64 i] w fun e w' => e = .returned (.int .i64 (relAt c i d)) ∧ ∃ n, w' = w.drewN n := by
  obtain ⟨hb, hcfg, hdom, _, hlo⟩ := h
  have hz := (blk hb).2.2
  obtain ⟨b, o, e1, hI, hc0, hc1, hc2, hc3⟩ := hcfg.s3.at_task hi
  obtain ⟨g, e2, hG, hg, hcr, hfr, _⟩ := hdom.released hl
  rw [e1, e2] at hb
  obtain ⟨cb, fb, zb⟩ := blk hb
  have hI : b < B := hI
  have hbl : b < w.heap.size := by omega
  have hi0 : (0 : Int) ≤ i := by omega
  have hi1 : (i : Int) < c.tasks.length := by omega
  have hi2 : (i : Int) < d.released.length := by omega
  have hmul : IntKind.i64.wrap ((nth c.tasks i).period * nth d.released i) = relAt c i d := by
    unfold relAt
    have h1 : 0 ≤ (nth c.tasks i).period * nth d.released i := Int.mul_nonneg hp.1 hr.1
    have h2 : (nth c.tasks i).period * nth d.released i ≤ 5000 * 100000 := Int.mul_le_mul hp.2 hr.2 hr.1 (by omega)
    exact IntWalk.i64_in _ (by omega)
  have hmul2 : (nth c.tasks i).period * nth d.released i = relAt c i d := rfl
  have hwr : IntKind.i64.wrap (relAt c i d) = relAt c i d := by rw [← hmul2]; exact hmul
  generalize relAt c i d = R at *
  generalize nth c.tasks i = tk at *
  generalize nth d.released i = rl at *
  clear hp hr hb hdom hcfg e1 e2
  go_enter Try.func122, Try.ntmps122
  go_wp2_with fail
  go_quiet (fail)
  go_wp2_with fail
  go_ret
  exact ⟨rfl, _, rfl⟩

theorem keeperLate (gk : Nat) (G : Nat → Nat → Prop) (B : Nat) (w : World) (c : TCfg) (S : TCfgS) (m : Int) (d : TDom) (T : TDomS) (h : Kp gk G B w c S m d T) (j : TJob) (hj : 0 ≤ j.task ∧ j.task < c.tasks.length)
    (hp : 0 ≤ (taskOf c j.task).dead ∧ (taskOf c j.task).dead ≤ 5000) (hr : 0 ≤ j.released ∧ j.released ≤ 100000) (h6 : c.tasks.length ≤ 6) :
    Calls Try.prog 124 #[.pointer (some ⟨gk, 0, none⟩), .agg #[.int .i64 j.task, .int .i64 j.number, .int .i64 j.released, .int .i64 j.used, .bool j.ran, .bool j.missed]] w fun e w' => e = .returned (.int .i64 (lateOf c j)) ∧ Below w.heap.size w w' := by
  obtain ⟨hb, hcfg, hdom, _, hlo⟩ := h
  have hz := (blk hb).2.2
  obtain ⟨t, n, rl, us, ra, mi⟩ := j
  dsimp only at hj hp hr ⊢
  obtain ⟨i, rfl⟩ := Int.eq_ofNat_of_zero_le hj.1
  have hi : i < c.tasks.length := by omega
  obtain ⟨b, o, e1, hI, hc0, hc1, hc2, hc3⟩ := hcfg.s3.at_task hi
  rw [e1] at hb
  obtain ⟨cb, fb, zb⟩ := blk hb
  have hI : b < B := hI
  have hbl : b < w.heap.size := by omega
  have hi0 : (0 : Int) ≤ i := by omega
  have hi1 : (i : Int) < c.tasks.length := by omega
  have hlt : lateOf c ⟨i, n, rl, us, ra, mi⟩ = rl + (nth c.tasks i).dead := by simp [lateOf, taskOf]
  rw [hlt]
  rw [show taskOf c (i : Int) = nth c.tasks i by simp [taskOf]] at hp
  generalize nth c.tasks i = tk at *
  obtain ⟨p1, p2⟩ := hp
  obtain ⟨r1, r2⟩ := hr
  have hw : IntKind.i64.wrap (rl + tk.dead) = rl + tk.dead := IntWalk.i64_in _ (by omega)
  clear hb hdom hcfg e1 hj hlt
  go_enter Try.func124, Try.ntmps124
  go_wp2_with fail
  go_quiet (fail)
  go_wp2_with fail
  go_ret
  exact ⟨rfl, byB⟩
end Go.Proofs.Ytinlmkhlgclbfaa
end

section
namespace Go.Proofs.Ytinlmkhlgclbfaa
open Go.RowKit
set_option maxRecDepth 100000
set_option maxHeartbeats 4000000

theorem DomO.more {G G' : Nat → Nat → Prop} {w : World} {d : TDom} {T : TDomS} (h : DomO G w d T) (hm : ∀ i b, G i b → G' i b) (hd : ∀ i j b, i ≠ j → G' i b → ¬ G' j b) (hl : ∀ i b, G' i b → b < w.heap.size) : DomO G' w d T :=
  ⟨h.o0.mono (hm 0), h.o1.mono (hm 1), h.o2.mono (hm 2), h.o3.mono (hm 3), h.o4.mono (hm 4), h.o5.mono (hm 5), hd, hl⟩
theorem kp_events (gk : Nat) (G : Nat → Nat → Prop) (B : Nat) (w : World) (c : TCfg) (S : TCfgS) (m : Int) (d : TDom) (T : TDomS) (h : Kp gk G B w c S m d T) (ev : TEv) {A : Option Addr} {cc : Nat} {w3 : World} {o : Obj}
    (hown : ownsZ w3 144 4 (.slice A (d.events.length + 1) cc) (d.events.length + 1) (d.events.flatMap TEv.cells ++ ev.cells)) (hg : (w.alloc o).grownBy w3 (rowZ (.slice T.a5 d.events.length T.n5)))
    (hat : ∀ b, rowZ (.slice A (d.events.length + 1) cc) = some b → rowZ (.slice T.a5 d.events.length T.n5) = some b ∨ b = (w.alloc o).heap.size) :
    Kp gk (addG G 5 w.heap.size w3.heap.size) B (w3.setCell ⟨gk, 16, none⟩ (.slice A (d.events.length + 1) cc)) c S m { d with events := d.events ++ [ev] } { T with a5 := A, n5 := cc } ∧
    KEff gk B G (addG G 5 w.heap.size w3.heap.size) w (w3.setCell ⟨gk, 16, none⟩ (.slice A (d.events.length + 1) cc)) := by
  have hz := (blk h.blk).2.2
  have hs3 := hg.size
  simp at hs3
  have hrow : ∀ b, rowZ (.slice T.a5 d.events.length T.n5) = some b → G 5 b := (ozl_flat.1 h.dom.o5).2
  have hold : ∀ b, b < w.heap.size → (¬ G 5 b) → w3.heap[b]? = w.heap[b]? := fun b hb hn =>
    (hg.block b (by simp; omega) (fun e => hn (hrow b e.symm))).trans (heap_alloc_old _ _ hb)
  have hD := (h.dom.keep (w' := w.alloc o) (fun i b hb => heap_alloc_old _ _ (h.dom.lt i b hb)) (by simp)).events (w1 := w3) [ev] (by simp) (by simpa using hown) hg hat
  have hD2 : DomO (addG G 5 w.heap.size w3.heap.size) w3 { d with events := d.events ++ [ev] } { T with a5 := A, n5 := cc } :=
    hD.more (fun i b hb => by rcases hb with hb | hb
                              · exact .inl hb
                              · exact .inr ⟨hb.1, by have := hb.2.1; simp at this; omega, hb.2.2⟩) (addG_dis h.dom.dis h.dom.lt) (fun i b hb => by
      rcases hb with hb | hb
      · have := h.dom.lt i b hb; omega
      · exact hb.2.2)
  have hap : ∀ i, ¬ addG G 5 w.heap.size w3.heap.size i gk := fun i hb => by
    rcases hb with hb | hb
    · exact (h.apart i gk hb).1 rfl
    · omega
  refine ⟨⟨?_, ?_, hD2.setCell hap, fun i b hb => ?_, h.lo⟩, ⟨?_, fun b hb hne hn => ?_, fun i b hb => ?_⟩⟩
  · have hk := (hold gk hz (fun hb => (h.apart 5 gk hb).1 rfl)).trans h.blk
    refine (heap_set_same hk).trans ?_
    simp [Array.setIfInBounds]
  · refine h.cfg.keep fun b hb => ?_
    have hb : b < B := hb
    have := h.lo
    exact heap_set_far (hold b (by omega) (fun e => by have := (h.apart 5 b e).2; omega)) (by simp; omega)
  · rcases hb with hb | hb
    · exact h.apart i b hb
    · have := h.lo; omega
  · have := h.lo
    refine Below.setCell (Below.grown (w := w.alloc o) (Below.alloc (Below.refl _ _) (by omega) _) hg (by simp; omega) (fun k hk => (h.apart 5 k (hrow k hk)).2)) (by simp; omega) _
  · exact heap_set_far (hold b hb (hn 5)) (by simp; exact hne)
  · rcases hb with hb | hb
    · exact .inl hb
    · exact .inr ⟨hb.2.1, by simpa using hb.2.2⟩

theorem keeperTell (gk : Nat) (G : Nat → Nat → Prop) (B : Nat) (w : World) (c : TCfg) (S : TCfgS) (m : Int) (d : TDom) (T : TDomS) (h : Kp gk G B w c S m d T) (at_ kind a b : Int) (hn : d.events.length + 1 ≤ 4398046511104) :
    Calls Try.prog 123 #[.pointer (some ⟨gk, 0, none⟩), .int .i64 at_, .int .i64 kind, .int .i64 a, .int .i64 b] w fun e w' => ∃ A n, e = .returned (.tuple #[]) ∧
      Kp gk (addG G 5 w.heap.size w'.heap.size) B w' c S m { d with events := d.events ++ [⟨at_, kind, a, b⟩] } { T with a5 := A, n5 := n } ∧ KEff gk B G (addG G 5 w.heap.size w'.heap.size) w w' := by
  have HE := fun {A : Option Addr} {cc : Nat} {w3 : World} {o : Obj} => Lib.hid (kp_events gk G B w c S m d T h ⟨at_, kind, a, b⟩ (A := A) (cc := cc) (w3 := w3) (o := o))
  have hown := (ozl_flat.1 h.dom.o5).1
  have hrow := (ozl_flat.1 h.dom.o5).2
  have hap := Lib.hid h.apart
  obtain ⟨hb, _, _, _, hlo⟩ := h
  obtain ⟨cb, fb, zb⟩ := blk hb
  have hown : ownsZ w 144 4 (.slice T.a5 d.events.length T.n5) d.events.length (d.events.flatMap TEv.cells) := hown
  go_enter Try.func123, Try.ntmps123
  have h1e : ∀ u ∈ [Value.int .i64 at_, .int .i64 kind, .int .i64 a, .int .i64 b], u.oneCell' = true := by intro u hu; exact one_ev [⟨at_, kind, a, b⟩] u (by simpa [TEv.cells] using hu)
  go_wp2_with (at_builtin; refine wpList_appZ rfl (.tmp 15) (.tmp 21) _ rfl tyEv (.slice T.a5 d.events.length T.n5) d.events.length (d.events.flatMap TEv.cells) (by rfl) (ownZ_keep hown (fun b hb => heap_alloc_old _ _ (ownZ_lt hown b hb))) (some ⟨w.heap.size, 0, none⟩) 1 1 [.int .i64 at_, .int .i64 kind, .int .i64 a, .int .i64 b] (by rfl) byR h1e (by unfold maxLen; omega) (by omega) (fun A3 c3 w3 own3 gr3 at3 => ?_); have z3 : w.heap.size + 1 ≤ w3.heap.size := (by have := gr3.size; simpa using this); have hb3 := (gr3.block gk (by simp; omega) (fun e => (hap.out 5 gk (hrow gk e.symm)).1 rfl)).trans ((heap_alloc_old _ _ zb).trans hb); obtain ⟨cb3, fb3, zb3⟩ := blk hb3)
  refine bodyPost_end (v := .tuple #[]) (by simp [results, Try.results123, go_sem, *]) rfl ?_
  refine ⟨A3, c3, rfl, ?_⟩
  have hh := HE.out own3 gr3 at3
  simpa using hh
end Go.Proofs.Ytinlmkhlgclbfaa
end
