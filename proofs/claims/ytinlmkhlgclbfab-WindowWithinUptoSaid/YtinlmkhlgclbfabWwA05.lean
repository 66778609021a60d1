/- DomQ -/
import Derived.Test.YtinlmkhlgclbfabWwA04
namespace Go.Proofs.Ytinlmkhlgclbfab
open Go.RowKit

theorem relStep_released (c : TCfg) (t : Nat) (d : TDom) : (relStep c t d).released = d.released.set t (nth d.released t + 1) := by unfold relStep; split <;> rfl
theorem relStep_next (c : TCfg) (t : Nat) (d : TDom) : (relStep c t d).next = d.next := by unfold relStep; split <;> rfl
theorem relStep_ins (c : TCfg) (t : Nat) (d : TDom) : (relStep c t d).ins = d.ins := by unfold relStep; split <;> rfl
theorem relStep_outs (c : TCfg) (t : Nat) (d : TDom) : (relStep c t d).outs = d.outs := by unfold relStep; split <;> rfl
theorem relStep_taken (c : TCfg) (t : Nat) (d : TDom) : (relStep c t d).taken = d.taken := by unfold relStep; split <;> rfl

theorem relCan_iff {c : TCfg} {t : Nat} {now : Int} {d : TDom} : relCan c t now d = true ↔ relAt c t d ≤ now ∧ nth d.released t < 100000 := by simp [relCan]
theorem relCan_stop {c : TCfg} {t : Nat} {now : Int} {d : TDom} : relCan c t now d = false ↔ ¬ (relAt c t d ≤ now ∧ nth d.released t < 100000) := by rw [← relCan_iff]; simp

theorem relLoop_done {c : TCfg} {t : Nat} {now : Int} : ∀ (n : Nat) (d : TDom), relFuel t d ≤ n → t < d.released.length → relCan c t now (relLoop c t now n d) = false := by
  intro n
  induction n with
  | zero =>
    intro d hn ht
    rw [relCan_stop]
    unfold relFuel at hn
    simp only [relLoop]
    omega
  | succ n ih =>
    intro d hn ht
    unfold relLoop
    split
    · rename_i hc
      have := relCan_iff.1 hc
      refine ih _ ?_ (by rw [relStep_released]; simpa using ht)
      unfold relFuel at hn ⊢
      rw [relStep_released, nth_set_self ht]
      omega
    · rename_i hc
      simpa using hc
theorem relLoop_keeps {c : TCfg} {t : Nat} {now : Int} {P : TDom → Prop} (h : ∀ d, P d → relCan c t now d = true → P (relStep c t d)) : ∀ (n : Nat) (d : TDom), P d → P (relLoop c t now n d) := by
  intro n
  induction n with
  | zero => intro d hp; exact hp
  | succ n ih =>
    intro d hp
    unfold relLoop
    split
    · rename_i hc; exact ih _ (h d hp hc)
    · exact hp

theorem jobOk_append {c : TCfg} {dom : Int} {js : List TJob} {j : TJob} (h : ∀ i, i < js.length → JobOk c dom (nth js i)) (hj : JobOk c dom j) : ∀ i, i < (js ++ [j]).length → JobOk c dom (nth (js ++ [j]) i) := by
  intro i hi
  by_cases e : i < js.length
  · rw [nth_append_left e]; exact h i e
  · obtain rfl : i = js.length := by simp at hi; omega
    rw [nth_append_last]; exact hj

theorem relStep_ok {c : TCfg} {dom now : Int} {t : Nat} {d : TDom} (hc : CfgOk c) (hn : now ≤ 100000) (ht : t < c.tasks.length) (hd : (nth c.tasks t).dom = dom) (h : DomOkW c dom d) (hcan : relCan c t now d = true) : DomOkW c dom (relStep c t d) := by
  have h1 := relCan_iff.1 hcan
  have ht' : t < d.released.length := by rw [h.lrel]; exact ht
  have hr := h.rel t ht'
  have hT := hc.task t ht
  have hat : 0 ≤ relAt c t d := Int.mul_nonneg (by omega) hr.1
  have hrel : ∀ i, i < (d.released.set t (nth d.released t + 1)).length → 0 ≤ nth (d.released.set t (nth d.released t + 1)) i ∧ nth (d.released.set t (nth d.released t + 1)) i ≤ 100000 := by
    intro i hi
    rw [List.length_set] at hi
    rw [nth_set hi]
    split
    · omega
    · exact h.rel i hi
  have hjob : JobOk c dom ⟨t, nth d.released t, relAt c t d, 0, false, false⟩ := by
    refine ⟨by simp; omega, ?_, hr, ⟨hat, by show relAt c t d ≤ 100000; omega⟩, ?_⟩
    · simpa [taskOf] using hd
    · show 0 ≤ (0 : Int) ∧ 0 < (taskOf c t).budget
      simp only [taskOf, Int.toNat_natCast]; omega
  unfold relStep
  split
  · rename_i hlt
    exact ⟨h.isD, by simpa using h.lrel, h.lin, h.lout, h.ltak, hrel, h.next, h.tak, by simp; omega, jobOk_append h.job hjob, h.ring⟩
  · exact ⟨h.isD, by simpa using h.lrel, h.lin, h.lout, h.ltak, hrel, h.next, h.tak, h.njobs, h.job, h.ring⟩

theorem relTask_ok {c : TCfg} {dom now : Int} {t : Nat} {d : TDom} (hc : CfgOk c) (hn : now ≤ 100000) (ht : t < c.tasks.length) (h : DomOkW c dom d) : DomOkW c dom (relTask c dom now t d) := by
  unfold relTask
  split
  · rename_i hd
    exact relLoop_keeps (fun d hp hcan => relStep_ok hc hn ht hd hp hcan) _ _ h
  · exact h
theorem relAll_ok {c : TCfg} {dom now : Int} {d : TDom} (hc : CfgOk c) (hn : now ≤ 100000) (h : DomOkW c dom d) : DomOkW c dom (relAll c dom now d) :=
  upTo_keeps (N := c.tasks.length) (fun i s hi hs => relTask_ok hc hn hi hs) _ _ _ (by omega) h

theorem missStep_ok {c : TCfg} {dom now : Int} {i : Nat} {d : TDom} (h : DomOkW c dom d) : DomOkW c dom (missStep c now i d) := by
  unfold missStep
  split
  · refine ⟨h.isD, h.lrel, h.lin, h.lout, h.ltak, h.rel, h.next, h.tak, by simpa using h.njobs, fun k hk => ?_, h.ring⟩
    simp only [List.length_set] at hk
    show JobOk c dom (nth (d.jobs.set i _) k)
    rw [nth_set hk]
    split
    · rename_i e; subst e
      have := h.job i hk
      exact ⟨this.task, this.dom, this.number, this.released, this.used⟩
    · exact h.job k hk
  · exact h
theorem missStep_length (c : TCfg) (now : Int) (i : Nat) (d : TDom) : (missStep c now i d).jobs.length = d.jobs.length := by unfold missStep; split <;> simp
theorem missStep_released (c : TCfg) (now : Int) (i : Nat) (d : TDom) : (missStep c now i d).released = d.released := by unfold missStep; split <;> rfl
theorem missAll_ok {c : TCfg} {dom now : Int} {d : TDom} (h : DomOkW c dom d) : DomOkW c dom (missAll c now d) :=
  upTo_keeps (N := d.jobs.length) (fun i s _ hs => missStep_ok hs) _ _ _ (by omega) h
theorem release_okW {c : TCfg} {dom now : Int} {d : TDom} (hc : CfgOk c) (hn : now ≤ 100000) (h : DomOkW c dom d) : DomOkW c dom (releaseOf c dom now d) := missAll_ok (relAll_ok hc hn h)
/-- what no release turns -/
theorem release_same {S : Type} {g : TDom → S} (h1 : ∀ d js ev rl, g { d with jobs := js, events := ev, released := rl } = g d) (c : TCfg) (dom now : Int) (d : TDom) : g (releaseOf c dom now d) = g d := by
  have hs : ∀ t d, g (relStep c t d) = g d := fun t d => by
    unfold relStep
    split
    · exact h1 _ _ _ _
    · exact h1 d d.jobs d.events _
  have hm : ∀ i d, g (missStep c now i d) = g d := fun i d => by
    unfold missStep
    split
    · exact h1 d _ _ d.released
    · rfl
  have hl : ∀ t n d, g (relLoop c t now n d) = g d := fun t n d => relLoop_keeps (P := fun x => g x = g d) (fun x hx _ => (hs t x).trans hx) n d rfl
  have ht : ∀ t d, g (relTask c dom now t d) = g d := fun t d => by
    unfold relTask
    split
    · exact hl _ _ _
    · rfl
  have ha : g (relAll c dom now d) = g d := upTo_keeps (P := fun x => g x = g d) (N := c.tasks.length) (fun t x _ hx => (ht t x).trans hx) _ _ _ (by omega) rfl
  exact (upTo_keeps (P := fun x => g x = g (relAll c dom now d)) (N := (relAll c dom now d).jobs.length) (fun t x _ hx => (hm t x).trans hx) _ _ _ (by omega) rfl).trans ha
theorem release_next (c : TCfg) (dom now : Int) (d : TDom) : (releaseOf c dom now d).next = d.next := release_same (g := TDom.next) (fun _ _ _ _ => rfl) c dom now d
theorem release_ins (c : TCfg) (dom now : Int) (d : TDom) : (releaseOf c dom now d).ins = d.ins := release_same (g := TDom.ins) (fun _ _ _ _ => rfl) c dom now d
theorem release_outs (c : TCfg) (dom now : Int) (d : TDom) : (releaseOf c dom now d).outs = d.outs := release_same (g := TDom.outs) (fun _ _ _ _ => rfl) c dom now d
theorem release_taken (c : TCfg) (dom now : Int) (d : TDom) : (releaseOf c dom now d).taken = d.taken := release_same (g := TDom.taken) (fun _ _ _ _ => rfl) c dom now d
theorem release_ok {c : TCfg} {dom now : Int} {d : TDom} (hc : CfgOk c) (hn : now ≤ 100000) (h : DomOk c dom d) : DomOk c dom (releaseOf c dom now d) := ⟨release_okW hc hn h.toDomOkW, by rw [release_outs]; exact h.out⟩

theorem relCan_other {c : TCfg} {t u : Nat} {now : Int} {d : TDom} (hne : t ≠ u) : relCan c u now (relStep c t d) = relCan c u now d := by
  unfold relCan relAt
  rw [relStep_released, nth_set_ne hne]
theorem relLoop_other {c : TCfg} {t u : Nat} {now : Int} (hne : t ≠ u) (n : Nat) (d : TDom) : relCan c u now (relLoop c t now n d) = relCan c u now d :=
  relLoop_keeps (P := fun s => relCan c u now s = relCan c u now d) (fun s hs _ => (relCan_other hne).trans hs) n d rfl
theorem relTask_length {c : TCfg} {dom now : Int} {t : Nat} {d : TDom} : (relTask c dom now t d).released.length = d.released.length := by
  unfold relTask
  split
  · exact relLoop_keeps (P := fun s => s.released.length = d.released.length) (fun s hs _ => by rw [relStep_released, List.length_set]; exact hs) _ _ rfl
  · rfl
theorem relTask_other {c : TCfg} {dom now : Int} {t u : Nat} {d : TDom} (hne : t ≠ u) : relCan c u now (relTask c dom now t d) = relCan c u now d := by
  unfold relTask
  split
  · exact relLoop_other hne _ _
  · rfl
theorem relTask_done {c : TCfg} {dom now : Int} {t : Nat} {d : TDom} (ht : t < d.released.length) (hd : (nth c.tasks t).dom = dom) : relCan c t now (relTask c dom now t d) = false := by
  unfold relTask
  rw [if_pos hd]
  exact relLoop_done _ _ (Nat.le_refl _) ht

theorem upTo_last {S : Type} (f : Nat → S → S) : ∀ (n i : Nat) (s : S), upTo f (n + 1) i s = f (i + n) (upTo f n i s) := by
  intro n
  induction n with
  | zero => intro i s; rfl
  | succ n ih =>
    intro i s
    rw [show upTo f (n + 1 + 1) i s = upTo f (n + 1) (i + 1) (f i s) from rfl, ih (i + 1) (f i s)]
    rw [show i + 1 + n = i + (n + 1) by omega]; rfl
theorem upTo_id {S : Type} {f : Nat → S → S} {s : S} : ∀ (n i : Nat), (∀ j, i ≤ j → j < i + n → f j s = s) → upTo f n i s = s := by
  intro n
  induction n with
  | zero => intro i _; rfl
  | succ n ih =>
    intro i h
    rw [show upTo f (n + 1) i s = upTo f n (i + 1) (f i s) from rfl, h i (Nat.le_refl _) (by omega)]
    exact ih (i + 1) fun j h1 h2 => h j (by omega) (by omega)
/-- what holds of i behind round i, and no other round turns, holds of all at the end -/
theorem upTo_all {S : Type} {f : Nat → S → S} {I : S → Prop} {P : Nat → S → Prop} {N : Nat} (hI : ∀ i s, i < N → I s → I (f i s)) (hP : ∀ i s, i < N → I s → P i (f i s)) (hK : ∀ i j s, i < N → j < N → j ≠ i → I s → P j s → P j (f i s)) :
    ∀ n s, n ≤ N → I s → I (upTo f n 0 s) ∧ ∀ j, j < n → P j (upTo f n 0 s) := by
  intro n
  induction n with
  | zero => intro s _ hs; exact ⟨hs, fun j hj => by omega⟩
  | succ n ih =>
    intro s hn hs
    obtain ⟨h1, h2⟩ := ih s (by omega) hs
    rw [upTo_last, Nat.zero_add]
    refine ⟨hI n _ (by omega) h1, fun j hj => ?_⟩
    by_cases e : j = n
    · subst e; exact hP j _ (by omega) h1
    · exact hK n j _ (by omega) (by omega) e h1 (h2 j (by omega))

theorem relAll_done {c : TCfg} {dom now : Int} {d : TDom} (hl : d.released.length = c.tasks.length) : (relAll c dom now d).released.length = c.tasks.length ∧ ∀ t, t < c.tasks.length → (nth c.tasks t).dom = dom → relCan c t now (relAll c dom now d) = false :=
  upTo_all (f := relTask c dom now) (I := fun s => s.released.length = c.tasks.length) (P := fun t s => (nth c.tasks t).dom = dom → relCan c t now s = false) (N := c.tasks.length)
    (fun i s _ hs => relTask_length.trans hs) (fun i s hi hs hd => relTask_done (by rw [hs]; exact hi) hd) (fun i j s hi hj hne hs hp hd => (relTask_other (Ne.symm hne)).trans (hp hd)) _ d (Nat.le_refl _) hl
theorem relAll_id {c : TCfg} {dom now : Int} {d : TDom} (h : ∀ t, t < c.tasks.length → (nth c.tasks t).dom = dom → relCan c t now d = false) : relAll c dom now d = d := by
  refine upTo_id _ _ fun t _ ht => ?_
  unfold relTask
  split
  · rename_i hd; exact relLoop_stop (h t (by omega) hd)
  · rfl

def missDone (c : TCfg) (now : Int) (i : Nat) (d : TDom) : Prop := (!(nth d.jobs i).missed && decide (lateOf c (nth d.jobs i) ≤ now)) = false
theorem missStep_other {c : TCfg} {now : Int} {i j : Nat} {d : TDom} (hne : j ≠ i) : nth (missStep c now i d).jobs j = nth d.jobs j := by
  unfold missStep; split
  · exact nth_set_ne (Ne.symm hne)
  · rfl
theorem missStep_done {c : TCfg} {now : Int} {i : Nat} {d : TDom} (hi : i < d.jobs.length) : missDone c now i (missStep c now i d) := by
  unfold missDone missStep
  split
  · simp [nth_set_self hi]
  · rename_i h; simpa using h
theorem missAll_done {c : TCfg} {now : Int} {d : TDom} : (missAll c now d).jobs.length = d.jobs.length ∧ ∀ i, i < d.jobs.length → missDone c now i (missAll c now d) :=
  upTo_all (f := missStep c now) (I := fun s => s.jobs.length = d.jobs.length) (P := fun i s => missDone c now i s) (N := d.jobs.length)
    (fun i s _ hs => (missStep_length _ _ _ _).trans hs) (fun i s hi hs => missStep_done (by rw [hs]; exact hi)) (fun i j s _ _ hne _ hp => by unfold missDone at hp ⊢; rw [missStep_other hne]; exact hp) _ d (Nat.le_refl _) rfl
theorem missAll_id {c : TCfg} {now : Int} {d : TDom} (h : ∀ i, i < d.jobs.length → missDone c now i d) : missAll c now d = d := by
  refine upTo_id _ _ fun i _ hi => ?_
  have := h i (by omega)
  unfold missDone at this
  unfold missStep
  rw [if_neg (by rw [this]; simp)]
theorem missAll_released (c : TCfg) (now : Int) (d : TDom) : (missAll c now d).released = d.released :=
  upTo_keeps (P := fun s => s.released = d.released) (N := d.jobs.length) (fun i s _ hs => (missStep_released c now i s).trans hs) _ _ _ (by omega) rfl
/-- D4: no time that is released twice changes anything -/
theorem release_twice {c : TCfg} {dom now : Int} {d : TDom} (hl : d.released.length = c.tasks.length) : releaseOf c dom now (releaseOf c dom now d) = releaseOf c dom now d := by
  have h1 := relAll_done (now := now) (dom := dom) hl
  have h2 : relAll c dom now (releaseOf c dom now d) = releaseOf c dom now d := by
    refine relAll_id fun t ht hd => ?_
    have := h1.2 t ht hd
    unfold relCan relAt at this ⊢
    unfold releaseOf
    rw [missAll_released]; exact this
  show missAll c now (relAll c dom now (releaseOf c dom now d)) = _
  rw [h2]
  refine missAll_id fun i hi => ?_
  have h3 := missAll_done (c := c) (now := now) (d := relAll c dom now d)
  exact h3.2 i (by rw [← h3.1]; exact hi)

/-- D4: whoever is picked has no other ahead of it -/
theorem best_late {c : TCfg} {js : List TJob} : (bestOf c js < 0 ↔ js.length = 0) ∧ bestOf c js < js.length ∧ (0 ≤ bestOf c js → ∀ i, i < js.length → lateOf c (nth js (bestOf c js).toNat) ≤ lateOf c (nth js i)) := by
  rcases bestOf_cases c js with ⟨rfl, h⟩ | ⟨i, hi, h, hb⟩
  · rw [h]; simp
  · rw [h]
    refine ⟨by omega, by omega, fun _ j hj => ?_⟩
    simp only [Int.toNat_natCast]
    by_cases e : j = i
    · subst e; exact Int.le_refl _
    · have := aheadI_iff.1 (hb j hj e)
      rw [aheadJ_iff, aheadJ_false] at this
      omega
end Go.Proofs.Ytinlmkhlgclbfab
