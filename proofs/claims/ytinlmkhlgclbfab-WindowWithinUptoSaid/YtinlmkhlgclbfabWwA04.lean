/- ConfigP RingP DomP -/
import Derived.Test.YtinlmkhlgclbfabWwA03
section
namespace Go.Proofs.Ytinlmkhlgclbfab
open Go.RowKit

def isDom (doms d : Int) : Bool := inB 0 d (doms - 1)
def headErr (c : TCfg) : Int :=
  if !inB 1 c.sets 4 || !inB 1 c.ways 3 || !inB 1 c.doms 4 || !inB 1 c.quantum 100 then 3
  else if !inB (2 + 5 * c.sets * c.ways) c.pad 99 then 4
  else if !inB 1 c.slots.length 6 || decide (4 < c.owners.length) || decide (4 < c.chans.length) || decide (6 < c.tasks.length) then 2 else 0
def slotErr (doms : Int) (x : TSlot) : Int := if !isDom doms x.dom then 5 else if !inB 100 x.len 1000 then 3 else 0
def slotsErr (c : TCfg) : Int := firstE c.slots.length fun i => slotErr c.doms (nth c.slots i)
def ownersErr (c : TCfg) : Int := if anyI c.owners.length (fun i => !isDom c.doms (nth c.owners i)) then 5 else 0
def sameChan (xs : List TChan) (i j : Nat) : Bool := (nth xs j).src == (nth xs i).src && (nth xs j).dst == (nth xs i).dst
def chanErr (doms : Int) (xs : List TChan) (i : Nat) : Int :=
  if !isDom doms (nth xs i).src || !isDom doms (nth xs i).dst then 5
  else if (nth xs i).src = (nth xs i).dst then 1
  else if !inB 1 (nth xs i).size 4 then 3
  else if anyI i (sameChan xs i) then 6 else 0
def chansErr (c : TCfg) : Int := firstE c.chans.length (chanErr c.doms c.chans)
def taskErr (doms : Int) (x : TTask) : Int :=
  if !isDom doms x.dom then 5
  else if !inB 1 x.period 5000 || !inB 1 x.budget x.period || !inB 1 x.dead x.period then 3 else 0
def tasksErr (c : TCfg) : Int := firstE c.tasks.length fun i => taskErr c.doms (nth c.tasks i)
def thenE (a b : Int) : Int := if a = 0 then b else a
/-- B1 -/
def checkConfig (c : TCfg) : Int := thenE (headErr c) (thenE (slotsErr c) (thenE (ownersErr c) (thenE (chansErr c) (tasksErr c))))

theorem thenE_zero {a b : Int} : thenE a b = 0 ↔ a = 0 ∧ b = 0 := by
  unfold thenE; split
  · rename_i h; simp [h]
  · rename_i h; simp [h]

structure CfgOk (c : TCfg) : Prop where
  sets : 1 ≤ c.sets ∧ c.sets ≤ 4
  ways : 1 ≤ c.ways ∧ c.ways ≤ 3
  doms : 1 ≤ c.doms ∧ c.doms ≤ 4
  quantum : 1 ≤ c.quantum ∧ c.quantum ≤ 100
  pad : 2 + 5 * c.sets * c.ways ≤ c.pad ∧ c.pad ≤ 99
  nslots : 1 ≤ c.slots.length ∧ c.slots.length ≤ 6
  nowners : c.owners.length ≤ 4
  nchans : c.chans.length ≤ 4
  ntasks : c.tasks.length ≤ 6
  slot : ∀ i, i < c.slots.length → 0 ≤ (nth c.slots i).dom ∧ (nth c.slots i).dom < c.doms ∧ 100 ≤ (nth c.slots i).len ∧ (nth c.slots i).len ≤ 1000
  owner : ∀ i, i < c.owners.length → 0 ≤ nth c.owners i ∧ nth c.owners i < c.doms
  chan : ∀ i, i < c.chans.length → (0 ≤ (nth c.chans i).src ∧ (nth c.chans i).src < c.doms) ∧ (0 ≤ (nth c.chans i).dst ∧ (nth c.chans i).dst < c.doms) ∧ (nth c.chans i).src ≠ (nth c.chans i).dst ∧ 1 ≤ (nth c.chans i).size ∧ (nth c.chans i).size ≤ 4
  task : ∀ i, i < c.tasks.length → (0 ≤ (nth c.tasks i).dom ∧ (nth c.tasks i).dom < c.doms) ∧ (1 ≤ (nth c.tasks i).period ∧ (nth c.tasks i).period ≤ 5000) ∧ (1 ≤ (nth c.tasks i).budget ∧ (nth c.tasks i).budget ≤ (nth c.tasks i).period) ∧ (1 ≤ (nth c.tasks i).dead ∧ (nth c.tasks i).dead ≤ (nth c.tasks i).period)

theorem isDom_true {doms d : Int} : isDom doms d = true ↔ 0 ≤ d ∧ d < doms := by unfold isDom; rw [inB_true]; omega
theorem ite_zero {p : Prop} [Decidable p] {a b : Int} (ha : a ≠ 0) : (if p then a else b) = 0 ↔ ¬ p ∧ b = 0 := by
  split
  · rename_i h; simp [h, ha]
  · rename_i h; simp [h]

theorem head_ok {c : TCfg} (h : headErr c = 0) : (1 ≤ c.sets ∧ c.sets ≤ 4) ∧ (1 ≤ c.ways ∧ c.ways ≤ 3) ∧ (1 ≤ c.doms ∧ c.doms ≤ 4) ∧ (1 ≤ c.quantum ∧ c.quantum ≤ 100) ∧ (2 + 5 * c.sets * c.ways ≤ c.pad ∧ c.pad ≤ 99) ∧ (1 ≤ c.slots.length ∧ c.slots.length ≤ 6) ∧ c.owners.length ≤ 4 ∧ c.chans.length ≤ 4 ∧ c.tasks.length ≤ 6 := by
  unfold headErr at h
  rw [ite_zero (by omega), ite_zero (by omega), ite_zero (by omega)] at h
  simp only [Bool.or_eq_true, Bool.not_eq_true', not_or, Bool.not_eq_false, decide_eq_true_eq, inB_true] at h
  omega

theorem checkConfig_ok {c : TCfg} (h : checkConfig c = 0) : CfgOk c := by
  unfold checkConfig at h
  rw [thenE_zero, thenE_zero, thenE_zero, thenE_zero] at h
  obtain ⟨h1, h2, h3, h4, h5⟩ := h
  obtain ⟨a1, a2, a3, a4, a5, a6, a7, a8, a9⟩ := head_ok h1
  refine ⟨a1, a2, a3, a4, a5, a6, a7, a8, a9, fun i hi => ?_, fun i hi => ?_, fun i hi => ?_, fun i hi => ?_⟩
  · have := firstE_zero h2 i hi
    unfold slotErr at this
    rw [ite_zero (by omega), ite_zero (by omega)] at this
    simp only [Bool.not_eq_true', Bool.not_eq_false, isDom_true, inB_true] at this
    omega
  · unfold ownersErr at h3
    rw [ite_zero (by omega)] at h3
    have := anyI_false.1 (by simpa using h3.1) i hi
    have := isDom_true.1 (by simpa using this)
    exact this
  · have := firstE_zero h4 i hi
    unfold chanErr at this
    rw [ite_zero (by omega), ite_zero (by omega), ite_zero (by omega), ite_zero (by omega)] at this
    simp only [Bool.or_eq_true, Bool.not_eq_true', not_or, Bool.not_eq_false, isDom_true, inB_true] at this
    obtain ⟨b1, b2, b3, b4, _⟩ := this
    exact ⟨b1.1, b1.2, b2, b3⟩
  · have := firstE_zero h5 i hi
    unfold taskErr at this
    rw [ite_zero (by omega), ite_zero (by omega)] at this
    simp only [Bool.or_eq_true, Bool.not_eq_true', not_or, Bool.not_eq_false, isDom_true, inB_true] at this
    obtain ⟨b1, ⟨⟨b2, b3⟩, b4⟩, _⟩ := this
    exact ⟨b1, b2, b3, b4⟩

/-- C2 -/
def arrErr (lines : Nat) (x : TArr) : Int := if !inB 0 x.t 100000 then 3 else if !inB 0 x.line ((lines : Int) - 1) then 5 else 0
def checkArrivals (c : TCfg) (l : List TArr) : Int := if 40 < l.length then 2 else firstE l.length fun i => arrErr c.owners.length (nth l i)
theorem checkArrivals_ok {c : TCfg} {l : List TArr} (h : checkArrivals c l = 0) : l.length ≤ 40 ∧ ∀ i, i < l.length → 0 ≤ (nth l i).t ∧ (nth l i).t ≤ 100000 ∧ 0 ≤ (nth l i).line ∧ (nth l i).line < c.owners.length := by
  unfold checkArrivals at h
  rw [ite_zero (by omega)] at h
  refine ⟨by omega, fun i hi => ?_⟩
  have := firstE_zero h.2 i hi
  unfold arrErr at this
  rw [ite_zero (by omega), ite_zero (by omega)] at this
  simp only [Bool.not_eq_true', Bool.not_eq_false, inB_true] at this
  omega
end Go.Proofs.Ytinlmkhlgclbfab
end

section
namespace Go.Proofs.Ytinlmkhlgclbfab
open Go.RowKit

def badValue (n : Int) : Bool := !inB 0 n 255
def areValues (vs : List Int) : Bool := !anyI vs.length fun j => badValue (nth vs j)
/-- C1: Check of a ring -/
def checkRing (vs : List Int) (lost size : Int) : Int :=
  if !inB 1 size 4 then 3 else if size < vs.length then 2 else if !areValues vs || !inB 0 lost 100000 then 3 else 0
/-- C1: values come to a ring; the first is taken -/
def comeN (vs ys : List Int) (size : Nat) : Nat := min (size - vs.length) ys.length
def comeVals (vs ys : List Int) (size : Nat) : List Int := vs ++ ys.take (comeN vs ys size)
def comeLost (vs ys : List Int) (lost : Int) (size : Nat) : Int := min 100000 (lost + ys.length - comeN vs ys size)
def restOf (vs : List Int) : List Int := vs.tail
def takeV (vs : List Int) : Int := match vs with | [] => -1 | v :: _ => v
/-- C1, value by value -/
def commitStep (size : Int) (r : List Int × Int) (v : Int) : List Int × Int := if (r.1.length : Int) < size then (r.1 ++ [v], r.2) else if r.2 < 100000 then (r.1, r.2 + 1) else r
def commitFold (vs : List Int) (lost size : Int) (ys : List Int) : List Int × Int := ys.foldl (commitStep size) (vs, lost)
theorem commitFold_succ (vs : List Int) (lost size : Int) (ys : List Int) (k : Nat) (h : k < ys.length) : commitFold vs lost size (ys.take (k + 1)) = commitStep size (commitFold vs lost size (ys.take k)) (nth ys k) := by
  unfold commitFold; rw [nth_eq h, List.take_succ_eq_append_getElem h, List.foldl_append]; rfl
theorem commitFold_eq (ys : List Int) : ∀ (vs : List Int) (lost : Int) (size : Nat), vs.length ≤ size → 0 ≤ lost → lost ≤ 100000 → commitFold vs lost size ys = (comeVals vs ys size, comeLost vs ys lost size) := by
  induction ys with
  | nil =>
    intro vs lost size h1 h2 h3
    simp only [commitFold, List.foldl_nil, comeVals, comeLost, comeN, List.take_nil, List.append_nil, List.length_nil]
    congr 1
    omega
  | cons y ys ih =>
    intro vs lost size h1 h2 h3
    have hstep : commitFold vs lost size (y :: ys) = commitFold (commitStep size (vs, lost) y).1 (commitStep size (vs, lost) y).2 size ys := rfl
    rw [hstep]
    by_cases h : vs.length < size
    · have e : commitStep size (vs, lost) y = (vs ++ [y], lost) := by simp [commitStep, h]
      rw [e, ih _ _ _ (by simp; omega) h2 h3]
      have hn : comeN vs (y :: ys) size = comeN (vs ++ [y]) ys size + 1 := by unfold comeN; simp; omega
      simp only [comeVals, comeLost, hn, List.take_succ_cons, List.append_assoc, List.singleton_append, List.length_cons]
      congr 1
      omega
    · have hn : comeN vs (y :: ys) size = 0 := by unfold comeN; simp; omega
      by_cases h' : lost < 100000
      · have e : commitStep size (vs, lost) y = (vs, lost + 1) := by simp [commitStep, h, h']
        have hn2 : comeN vs ys size = 0 := by unfold comeN; omega
        rw [e, ih _ _ _ h1 (by simp; omega) (by simp; omega)]
        simp only [comeVals, comeLost, hn, hn2, List.take_zero, List.length_cons]
        congr 1
        omega
      · have e : commitStep size (vs, lost) y = (vs, lost) := by simp [commitStep, h, h']
        have hn2 : comeN vs ys size = 0 := by unfold comeN; omega
        rw [e, ih _ _ _ h1 h2 h3]
        simp only [comeVals, comeLost, hn, hn2, List.take_zero, List.length_cons]
        congr 1
        omega
end Go.Proofs.Ytinlmkhlgclbfab
end

section
namespace Go.Proofs.Ytinlmkhlgclbfab
open Go.RowKit

def taskOf (c : TCfg) (t : Int) : TTask := nth c.tasks t.toNat
def jobErr (c : TCfg) (dom : Int) (j : TJob) : Int :=
  if !inB 0 j.task ((c.tasks.length : Int) - 1) then 5
  else if (taskOf c j.task).dom ≠ dom then 5
  else if !inB 0 j.number 100000 || !inB 0 j.released 100000 || !inB 0 j.used ((taskOf c j.task).budget - 1) then 3 else 0
def outErr (l : List Int) : Int := if 60 < l.length then 2 else if !areValues l then 3 else 0
def formErr (c : TCfg) (d : TDom) : Int :=
  if d.released.length ≠ c.tasks.length ∨ d.ins.length ≠ c.chans.length ∨ d.outs.length ≠ c.chans.length ∨ d.taken.length ≠ c.owners.length then 1
  else if anyI d.released.length (fun i => !inB 0 (nth d.released i) 100000) || !inB 0 d.next 100000 || anyI d.taken.length (fun i => !inB 0 (nth d.taken i) 15) then 3
  else if 20 < d.jobs.length then 2 else 0
def insErr (c : TCfg) (d : TDom) : Int := firstE d.ins.length fun i => checkRing (nth d.ins i).vals (nth d.ins i).lost (nth c.chans i).size
def domErr (c : TCfg) (dom : Int) (d : TDom) : Int :=
  if !isDom c.doms dom then 5
  else thenE (formErr c d) (thenE (firstE d.jobs.length fun i => jobErr c dom (nth d.jobs i)) (thenE (insErr c d) (firstE d.outs.length fun i => outErr (nth d.outs i))))
def checkBoth (c : TCfg) (dom : Int) (d : TDom) : Int := thenE (checkConfig c) (domErr c dom d)

structure JobOk (c : TCfg) (dom : Int) (j : TJob) : Prop where
  task : 0 ≤ j.task ∧ j.task < c.tasks.length
  dom : (taskOf c j.task).dom = dom
  number : 0 ≤ j.number ∧ j.number ≤ 100000
  released : 0 ≤ j.released ∧ j.released ≤ 100000
  used : 0 ≤ j.used ∧ j.used < (taskOf c j.task).budget
theorem jobErr_zero {c : TCfg} {dom : Int} {j : TJob} : jobErr c dom j = 0 ↔ JobOk c dom j := by
  unfold jobErr
  rw [ite_zero (by omega), ite_zero (by omega), ite_zero (by omega)]
  simp only [Bool.or_eq_true, Bool.not_eq_true', not_or, Bool.not_eq_false, inB_true, Decidable.not_not, and_true]
  constructor
  · rintro ⟨h1, h2, ⟨h3, h4⟩, h5⟩
    exact ⟨by omega, h2, h3, h4, by omega⟩
  · rintro ⟨h1, h2, h3, h4, h5⟩
    exact ⟨by omega, h2, ⟨h3, h4⟩, by omega⟩
/-- a domain that is right, but for how much is in its Out -/
structure DomOkW (c : TCfg) (dom : Int) (d : TDom) : Prop where
  isD : 0 ≤ dom ∧ dom < c.doms
  lrel : d.released.length = c.tasks.length
  lin : d.ins.length = c.chans.length
  lout : d.outs.length = c.chans.length
  ltak : d.taken.length = c.owners.length
  rel : ∀ i, i < d.released.length → 0 ≤ nth d.released i ∧ nth d.released i ≤ 100000
  next : 0 ≤ d.next ∧ d.next ≤ 100000
  tak : ∀ i, i < d.taken.length → 0 ≤ nth d.taken i ∧ nth d.taken i ≤ 15
  njobs : d.jobs.length ≤ 20
  job : ∀ i, i < d.jobs.length → JobOk c dom (nth d.jobs i)
  ring : ∀ i, i < d.ins.length → checkRing (nth d.ins i).vals (nth d.ins i).lost (nth c.chans i).size = 0
structure DomOk (c : TCfg) (dom : Int) (d : TDom) : Prop extends DomOkW c dom d where
  out : ∀ i, i < d.outs.length → (nth d.outs i).length ≤ 60 ∧ areValues (nth d.outs i) = true
theorem domErr_zero {c : TCfg} {dom : Int} {d : TDom} : domErr c dom d = 0 ↔ DomOk c dom d := by
  unfold domErr formErr insErr
  rw [ite_zero (by omega), thenE_zero, thenE_zero, thenE_zero, ite_zero (by omega), ite_zero (by omega), ite_zero (by omega), firstE_zero_iff, firstE_zero_iff, firstE_zero_iff]
  simp only [Bool.or_eq_true, Bool.not_eq_true', not_or, Bool.not_eq_false, isDom_true, inB_true, Decidable.not_not, ne_eq, Bool.not_eq_true, anyI_false, and_true, jobErr_zero]
  constructor
  · rintro ⟨h1, ⟨⟨a1, a2, a3, a4⟩, ⟨⟨b1, b2⟩, b3⟩, b4⟩, h3, h4, h5⟩
    refine ⟨⟨h1, a1, a2, a3, a4, fun i hi => inB_true.1 (by simpa using b1 i hi), b2, fun i hi => inB_true.1 (by simpa using b3 i hi), by omega, h3, h4⟩, fun i hi => ?_⟩
    have := h5 i hi
    unfold outErr at this
    rw [ite_zero (by omega), ite_zero (by omega)] at this
    simp only [Bool.not_eq_true', Bool.not_eq_false, and_true] at this
    exact ⟨by omega, this.2⟩
  · intro h
    refine ⟨h.isD, ⟨⟨h.lrel, h.lin, h.lout, h.ltak⟩, ⟨⟨fun i hi => ?_, h.next⟩, fun i hi => ?_⟩, by have := h.njobs; omega⟩, h.job, h.ring, fun i hi => ?_⟩
    · have := inB_true.2 (h.rel i hi); simpa using this
    · have := inB_true.2 (h.tak i hi); simpa using this
    · have := h.out i hi
      unfold outErr
      rw [if_neg (by omega), if_neg (by simp [this.2])]

/-- f i, f (i + 1), .., n of them -/
def upTo {S : Type} (f : Nat → S → S) : Nat → Nat → S → S
  | 0, _, s => s
  | n + 1, i, s => upTo f n (i + 1) (f i s)
theorem upTo_step {S : Type} (f : Nat → S → S) {n i : Nat} (h : i < n) (s : S) : upTo f (n - i) i s = upTo f (n - (i + 1)) (i + 1) (f i s) := by
  obtain ⟨m, hm⟩ : ∃ m, n - i = m + 1 := ⟨n - i - 1, by omega⟩
  rw [hm, show n - (i + 1) = m by omega]; rfl
theorem upTo_end {S : Type} (f : Nat → S → S) {n i : Nat} (h : n ≤ i) (s : S) : upTo f (n - i) i s = s := by rw [show n - i = 0 by omega]; rfl
theorem upTo_keeps {S : Type} {f : Nat → S → S} {P : S → Prop} {N : Nat} (h : ∀ i s, i < N → P s → P (f i s)) : ∀ n i s, i + n ≤ N → P s → P (upTo f n i s) := by
  intro n
  induction n with
  | zero => intro i s _ hp; exact hp
  | succ n ih => intro i s hi hp; exact ih (i + 1) (f i s) (by omega) (h i s (by omega) hp)

/-- D2: one job of task t comes -/
def relAt (c : TCfg) (t : Nat) (d : TDom) : Int := (nth c.tasks t).period * nth d.released t
def relCan (c : TCfg) (t : Nat) (now : Int) (d : TDom) : Bool := decide (relAt c t d ≤ now) && decide (nth d.released t < 100000)
def relStep (c : TCfg) (t : Nat) (d : TDom) : TDom :=
  if d.jobs.length < 20 then
    { d with jobs := d.jobs ++ [⟨t, nth d.released t, relAt c t d, 0, false, false⟩], events := d.events ++ [⟨relAt c t d, 2, t, nth d.released t⟩], released := d.released.set t (nth d.released t + 1) }
  else { d with released := d.released.set t (nth d.released t + 1) }
def relLoop (c : TCfg) (t : Nat) (now : Int) : Nat → TDom → TDom
  | 0, d => d
  | n + 1, d => if relCan c t now d then relLoop c t now n (relStep c t d) else d
def relFuel (t : Nat) (d : TDom) : Nat := (100000 - nth d.released t).toNat
def relTask (c : TCfg) (dom now : Int) (t : Nat) (d : TDom) : TDom := if (nth c.tasks t).dom = dom then relLoop c t now (relFuel t d) d else d
def lateOf (c : TCfg) (j : TJob) : Int := j.released + (taskOf c j.task).dead
def missStep (c : TCfg) (now : Int) (i : Nat) (d : TDom) : TDom :=
  if !(nth d.jobs i).missed && decide (lateOf c (nth d.jobs i) ≤ now) then
    { d with jobs := d.jobs.set i { nth d.jobs i with missed := true }, events := d.events ++ [⟨lateOf c (nth d.jobs i), 6, (nth d.jobs i).task, (nth d.jobs i).number⟩] }
  else d
def relAll (c : TCfg) (dom now : Int) (d : TDom) : TDom := upTo (relTask c dom now) c.tasks.length 0 d
def missAll (c : TCfg) (now : Int) (d : TDom) : TDom := upTo (missStep c now) d.jobs.length 0 d
def releaseOf (c : TCfg) (dom now : Int) (d : TDom) : TDom := missAll c now (relAll c dom now d)

theorem relLoop_go {c : TCfg} {t : Nat} {now : Int} {n : Nat} {d : TDom} (hn : relFuel t d ≤ n) (h : relCan c t now d = true) : ∃ m, n = m + 1 ∧ relLoop c t now n d = relLoop c t now m (relStep c t d) := by
  unfold relCan at h
  simp only [Bool.and_eq_true, decide_eq_true_eq] at h
  unfold relFuel at hn
  obtain ⟨m, rfl⟩ : ∃ m, n = m + 1 := ⟨n - 1, by omega⟩
  refine ⟨m, rfl, ?_⟩
  conv => lhs; unfold relLoop
  rw [if_pos (by simp [relCan, h])]
theorem relLoop_stop {c : TCfg} {t : Nat} {now : Int} {n : Nat} {d : TDom} (h : relCan c t now d = false) : relLoop c t now n d = d := by
  cases n with
  | zero => rfl
  | succ n => unfold relLoop; rw [if_neg (by simp [h])]

/-- D3: which job runs ahead of which -/
def aheadJ (c : TCfg) (a b : TJob) : Bool :=
  if lateOf c a ≠ lateOf c b then decide (lateOf c a < lateOf c b) else if a.task ≠ b.task then decide (a.task < b.task) else decide (a.number < b.number)
def aheadI (c : TCfg) (js : List TJob) (i k : Nat) : Bool := aheadJ c (nth js i) (nth js k) || (!aheadJ c (nth js k) (nth js i) && decide (i < k))
/-- none of the others is ahead of it -/
def isFirst (c : TCfg) (js : List TJob) (i : Nat) : Bool := !anyI js.length fun k => decide (k ≠ i) && aheadI c js k i
def bestOf (c : TCfg) (js : List TJob) : Int := findI js.length (isFirst c js)

theorem aheadJ_iff {c : TCfg} {a b : TJob} : aheadJ c a b = true ↔ lateOf c a < lateOf c b ∨ (lateOf c a = lateOf c b ∧ (a.task < b.task ∨ (a.task = b.task ∧ a.number < b.number))) := by
  unfold aheadJ
  split
  · simp; omega
  · split
    · simp; omega
    · simp; omega
theorem aheadJ_false {c : TCfg} {a b : TJob} : aheadJ c a b = false ↔ ¬ (lateOf c a < lateOf c b ∨ (lateOf c a = lateOf c b ∧ (a.task < b.task ∨ (a.task = b.task ∧ a.number < b.number)))) := by
  rw [← aheadJ_iff]; simp
theorem aheadI_iff {c : TCfg} {js : List TJob} {i k : Nat} : aheadI c js i k = true ↔ aheadJ c (nth js i) (nth js k) = true ∨ (aheadJ c (nth js k) (nth js i) = false ∧ i < k) := by
  unfold aheadI; simp
theorem aheadI_asymm {c : TCfg} {js : List TJob} {i k : Nat} (h : aheadI c js i k = true) : aheadI c js k i = false := by
  rw [← Bool.not_eq_true, aheadI_iff, aheadJ_iff, aheadJ_false]
  rw [aheadI_iff, aheadJ_iff, aheadJ_false] at h
  omega
theorem aheadI_total {c : TCfg} {js : List TJob} {i k : Nat} (hne : i ≠ k) (h : aheadI c js i k = false) : aheadI c js k i = true := by
  rw [← Bool.not_eq_true, aheadI_iff, aheadJ_iff, aheadJ_false] at h
  rw [aheadI_iff, aheadJ_iff, aheadJ_false]
  omega
theorem aheadI_trans {c : TCfg} {js : List TJob} {i j k : Nat} (h : aheadI c js i j = true) (h' : aheadI c js j k = true) : aheadI c js i k = true := by
  rw [aheadI_iff, aheadJ_iff, aheadJ_false] at h h' ⊢
  omega
/-- of the first k jobs, b is ahead of all others -/
def BestTo (c : TCfg) (js : List TJob) (k : Nat) (b : Int) : Prop := (k = 0 ∧ b = -1) ∨ (∃ i : Nat, i < k ∧ b = i ∧ ∀ j, j < k → j ≠ i → aheadI c js i j = true)
theorem BestTo.zero (c : TCfg) (js : List TJob) : BestTo c js 0 (-1) := .inl ⟨rfl, rfl⟩
theorem BestTo.take {c : TCfg} {js : List TJob} {k : Nat} {b : Int} (h : BestTo c js k b) (ht : b < 0 ∨ aheadJ c (nth js k) (nth js b.toNat) = true) : BestTo c js (k + 1) k := by
  refine .inr ⟨k, by omega, rfl, fun j hj hne => ?_⟩
  rcases h with ⟨rfl, rfl⟩ | ⟨i, hi, rfl, h⟩
  · omega
  · rcases ht with ht | ht
    · omega
    · have hk : aheadI c js k i = true := aheadI_iff.2 (.inl (by simpa using ht))
      by_cases e : j = i
      · subst e; exact hk
      · exact aheadI_trans hk (h j (by omega) e)
theorem BestTo.stay {c : TCfg} {js : List TJob} {k : Nat} {b : Int} (h : BestTo c js k b) (h0 : 0 ≤ b) (ht : aheadJ c (nth js k) (nth js b.toNat) = false) : BestTo c js (k + 1) b := by
  rcases h with ⟨rfl, rfl⟩ | ⟨i, hi, rfl, h⟩
  · omega
  · refine .inr ⟨i, by omega, rfl, fun j hj hne => ?_⟩
    by_cases e : j = k
    · subst e; exact aheadI_iff.2 (.inr ⟨by simpa using ht, hi⟩)
    · exact h j (by omega) hne
theorem BestTo.best {c : TCfg} {js : List TJob} {b : Int} (h : BestTo c js js.length b) : bestOf c js = b := by
  rcases h with ⟨h0, rfl⟩ | ⟨i, hi, rfl, h⟩
  · unfold bestOf; rw [h0]; rfl
  · refine findI_hit hi (fun j hj => ?_) ?_
    · unfold isFirst
      rw [Bool.not_eq_false', anyI_true]
      exact ⟨i, hi, by simp [h j (by omega) (by omega)]; omega⟩
    · unfold isFirst
      rw [Bool.not_eq_true', anyI_false]
      intro j hj
      by_cases e : j = i
      · simp [e]
      · rw [aheadI_asymm (h j hj e)]; simp
theorem bestOf_cases (c : TCfg) (js : List TJob) : (js = [] ∧ bestOf c js = -1) ∨ (∃ i : Nat, i < js.length ∧ bestOf c js = i ∧ ∀ j, j < js.length → j ≠ i → aheadI c js i j = true) := by
  have key : ∀ k, ∃ b, BestTo c js k b := by
    intro k
    induction k with
    | zero => exact ⟨-1, BestTo.zero c js⟩
    | succ k ih =>
      obtain ⟨b, hb⟩ := ih
      by_cases h0 : b < 0
      · exact ⟨k, hb.take (.inl h0)⟩
      · cases ha : aheadJ c (nth js k) (nth js b.toNat) with
        | true => exact ⟨k, hb.take (.inr ha)⟩
        | false => exact ⟨b, hb.stay (by omega) ha⟩
  obtain ⟨b, hb⟩ := key js.length
  have hbest := hb.best
  rcases hb with ⟨h0, rfl⟩ | ⟨i, hi, rfl, h⟩
  · exact .inl ⟨List.eq_nil_of_length_eq_zero h0, hbest⟩
  · exact .inr ⟨i, hi, hbest, h⟩

/-- D3: when the next job comes, of tasks 0 .. k - 1; -1: none does -/
def IsDue (c : TCfg) (dom : Int) (d : TDom) (p : Nat → Prop) (v : Int) : Prop :=
  (v = -1 ∧ ∀ t, p t → (nth c.tasks t).dom ≠ dom) ∨ (∃ t, p t ∧ (nth c.tasks t).dom = dom ∧ v = relAt c t d ∧ 0 ≤ v ∧ ∀ u, p u → (nth c.tasks u).dom = dom → v ≤ relAt c u d)
theorem IsDue.unique {c : TCfg} {dom : Int} {d : TDom} {p : Nat → Prop} {v v' : Int} (h : IsDue c dom d p v) (h' : IsDue c dom d p v') : v = v' := by
  rcases h with ⟨rfl, h⟩ | ⟨t, h1, h2, h3, h4, h5⟩
  · rcases h' with ⟨rfl, h'⟩ | ⟨t', h1', h2', _⟩
    · rfl
    · exact absurd h2' (h t' h1')
  · rcases h' with ⟨rfl, h'⟩ | ⟨t', h1', h2', h3', h4', h5'⟩
    · exact absurd h2 (h' t h1)
    · have := h5 t' h1' h2'
      have := h5' t h1 h2
      omega
theorem IsDue.skip {c : TCfg} {dom : Int} {d : TDom} {p q : Nat → Prop} {v : Int} {k : Nat} (h : IsDue c dom d p v) (hq : ∀ t, q t ↔ p t ∨ t = k) (hd : (nth c.tasks k).dom ≠ dom) : IsDue c dom d q v := by
  rcases h with ⟨rfl, h⟩ | ⟨t, h1, h2, h3, h4, h5⟩
  · refine .inl ⟨rfl, fun t ht => ?_⟩
    rcases (hq t).1 ht with ht | rfl
    · exact h t ht
    · exact hd
  · refine .inr ⟨t, (hq t).2 (.inl h1), h2, h3, h4, fun u hu hdu => ?_⟩
    rcases (hq u).1 hu with hu | rfl
    · exact h5 u hu hdu
    · exact absurd hdu hd
theorem IsDue.take {c : TCfg} {dom : Int} {d : TDom} {p q : Nat → Prop} {v : Int} {k : Nat} (h : IsDue c dom d p v) (hq : ∀ t, q t ↔ p t ∨ t = k) (hd : (nth c.tasks k).dom = dom) (h0 : 0 ≤ relAt c k d) (hv : v < 0 ∨ relAt c k d ≤ v) : IsDue c dom d q (relAt c k d) := by
  refine .inr ⟨k, (hq k).2 (.inr rfl), hd, rfl, h0, fun u hu hdu => ?_⟩
  rcases (hq u).1 hu with hu | rfl
  · rcases h with ⟨rfl, h⟩ | ⟨t, h1, h2, h3, h4, h5⟩
    · exact absurd hdu (h u hu)
    · have := h5 u hu hdu
      omega
  · exact Int.le_refl _
theorem IsDue.stay {c : TCfg} {dom : Int} {d : TDom} {p q : Nat → Prop} {v : Int} {k : Nat} (h : IsDue c dom d p v) (hq : ∀ t, q t ↔ p t ∨ t = k) (h0 : 0 ≤ v) (hv : v ≤ relAt c k d) : IsDue c dom d q v := by
  rcases h with ⟨rfl, h⟩ | ⟨t, h1, h2, h3, h4, h5⟩
  · omega
  · refine .inr ⟨t, (hq t).2 (.inl h1), h2, h3, h4, fun u hu hdu => ?_⟩
    rcases (hq u).1 hu with hu | rfl
    · exact h5 u hu hdu
    · exact hv
theorem IsDue.start (c : TCfg) (dom : Int) (d : TDom) (p : Nat → Prop) (h : ∀ t, ¬ p t) : IsDue c dom d p (-1) := .inl ⟨rfl, fun t ht => absurd ht (h t)⟩
def dueUp (c : TCfg) (dom : Int) (d : TDom) : Nat → Int
  | 0 => -1
  | k + 1 => if (nth c.tasks k).dom = dom then (if dueUp c dom d k < 0 ∨ relAt c k d < dueUp c dom d k then relAt c k d else dueUp c dom d k) else dueUp c dom d k
def dueOf (c : TCfg) (dom : Int) (d : TDom) : Int := dueUp c dom d c.tasks.length
theorem dueUp_isDue {c : TCfg} {dom : Int} {d : TDom} (k : Nat) (hp : ∀ t, t < k → 0 ≤ relAt c t d) : IsDue c dom d (fun t => t < k) (dueUp c dom d k) := by
  induction k with
  | zero => exact IsDue.start _ _ _ _ fun t h => by omega
  | succ k ih =>
    have ih := ih fun t ht => hp t (by omega)
    have hq : ∀ t, t < k + 1 ↔ t < k ∨ t = k := fun t => by omega
    unfold dueUp
    split
    · rename_i hd
      split
      · exact ih.take hq hd (hp k (by omega)) (by omega)
      · exact ih.stay hq (by omega) (by omega)
    · rename_i hd
      exact ih.skip hq hd
/-- D1: a domain at the start -/
def freshOf (c : TCfg) : TDom := ⟨[], List.replicate c.tasks.length 0, 0, List.replicate c.chans.length ⟨[], 0⟩, List.replicate c.owners.length 0, List.replicate c.chans.length [], []⟩
end Go.Proofs.Ytinlmkhlgclbfab
end
