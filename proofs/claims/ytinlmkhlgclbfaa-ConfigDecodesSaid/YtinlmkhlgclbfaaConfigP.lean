/-
  ConfigP: configs as plain data: what Check must say; what a right config is. No program in sight.
-/
import Derived.Test.YtinlmkhlgclbfaaData
namespace Go.Proofs.Ytinlmkhlgclbfaa
open Go.RowKit

def isDom (doms d : Int) : Bool := inB 0 d (doms - 1)
def headErr (c : TCfg) : Int :=
  if !inB 1 c.sets 4 || !inB 1 c.ways 3 || !inB 1 c.doms 4 || !inB 1 c.quantum 100 then 3
  else if !inB (2 + 5 * c.sets * c.ways) c.pad 99 then 4
  else if !inB 1 c.slots.length 6 || decide (4 < c.owners.length) || decide (4 < c.chans.length) || decide (6 < c.tasks.length) then 2 else 0
def slotErr (doms : Int) (x : TSlot) : Int := if !isDom doms x.dom then 5 else if !inB 100 x.len 1000 then 3 else 0
def slotsErr (c : TCfg) : Int := firstE c.slots.length fun i => slotErr c.doms (nth c.slots i)
def ownersErr (c : TCfg) : Int := if anyI c.owners.length (fun i => !isDom c.doms (nth c.owners i)) then 5 else 0
def sameChan (xs : List TChan) (i j : Nat) : Bool := (nth xs j).src == (nth xs i).src && (nth xs j).dst == (nth xs i).dst
def chanErr (doms : Int) (xs : List TChan) (i : Nat) : Int :=
  if !isDom doms (nth xs i).src || !isDom doms (nth xs i).dst then 5
  else if (nth xs i).src = (nth xs i).dst then 1
  else if !inB 1 (nth xs i).size 4 then 3
  else if anyI i (sameChan xs i) then 6 else 0
def chansErr (c : TCfg) : Int := firstE c.chans.length (chanErr c.doms c.chans)
def taskErr (doms : Int) (x : TTask) : Int :=
  if !isDom doms x.dom then 5
  else if !inB 1 x.period 5000 || !inB 1 x.budget x.period || !inB 1 x.dead x.period then 3 else 0
def tasksErr (c : TCfg) : Int := firstE c.tasks.length fun i => taskErr c.doms (nth c.tasks i)
def thenE (a b : Int) : Int := if a = 0 then b else a
/-- B1 -/
def checkConfig (c : TCfg) : Int := thenE (headErr c) (thenE (slotsErr c) (thenE (ownersErr c) (thenE (chansErr c) (tasksErr c))))

theorem thenE_zero {a b : Int} : thenE a b = 0 ↔ a = 0 ∧ b = 0 := by
  unfold thenE; split
  · rename_i h; simp [h]
  · rename_i h; simp [h]

structure CfgOk (c : TCfg) : Prop where
  sets : 1 ≤ c.sets ∧ c.sets ≤ 4
  ways : 1 ≤ c.ways ∧ c.ways ≤ 3
  doms : 1 ≤ c.doms ∧ c.doms ≤ 4
  quantum : 1 ≤ c.quantum ∧ c.quantum ≤ 100
  pad : 2 + 5 * c.sets * c.ways ≤ c.pad ∧ c.pad ≤ 99
  nslots : 1 ≤ c.slots.length ∧ c.slots.length ≤ 6
  nowners : c.owners.length ≤ 4
  nchans : c.chans.length ≤ 4
  ntasks : c.tasks.length ≤ 6
  slot : ∀ i, i < c.slots.length → 0 ≤ (nth c.slots i).dom ∧ (nth c.slots i).dom < c.doms ∧ 100 ≤ (nth c.slots i).len ∧ (nth c.slots i).len ≤ 1000
  owner : ∀ i, i < c.owners.length → 0 ≤ nth c.owners i ∧ nth c.owners i < c.doms
  chan : ∀ i, i < c.chans.length → (0 ≤ (nth c.chans i).src ∧ (nth c.chans i).src < c.doms) ∧ (0 ≤ (nth c.chans i).dst ∧ (nth c.chans i).dst < c.doms) ∧ (nth c.chans i).src ≠ (nth c.chans i).dst ∧ 1 ≤ (nth c.chans i).size ∧ (nth c.chans i).size ≤ 4
  task : ∀ i, i < c.tasks.length → (0 ≤ (nth c.tasks i).dom ∧ (nth c.tasks i).dom < c.doms) ∧ (1 ≤ (nth c.tasks i).period ∧ (nth c.tasks i).period ≤ 5000) ∧ (1 ≤ (nth c.tasks i).budget ∧ (nth c.tasks i).budget ≤ (nth c.tasks i).period) ∧ (1 ≤ (nth c.tasks i).dead ∧ (nth c.tasks i).dead ≤ (nth c.tasks i).period)

theorem isDom_true {doms d : Int} : isDom doms d = true ↔ 0 ≤ d ∧ d < doms := by unfold isDom; rw [inB_true]; omega
theorem ite_zero {p : Prop} [Decidable p] {a b : Int} (ha : a ≠ 0) : (if p then a else b) = 0 ↔ ¬ p ∧ b = 0 := by
  split
  · rename_i h; simp [h, ha]
  · rename_i h; simp [h]

theorem head_ok {c : TCfg} (h : headErr c = 0) : (1 ≤ c.sets ∧ c.sets ≤ 4) ∧ (1 ≤ c.ways ∧ c.ways ≤ 3) ∧ (1 ≤ c.doms ∧ c.doms ≤ 4) ∧ (1 ≤ c.quantum ∧ c.quantum ≤ 100) ∧ (2 + 5 * c.sets * c.ways ≤ c.pad ∧ c.pad ≤ 99) ∧ (1 ≤ c.slots.length ∧ c.slots.length ≤ 6) ∧ c.owners.length ≤ 4 ∧ c.chans.length ≤ 4 ∧ c.tasks.length ≤ 6 := by
  unfold headErr at h
  rw [ite_zero (by omega), ite_zero (by omega), ite_zero (by omega)] at h
  simp only [Bool.or_eq_true, Bool.not_eq_true', not_or, Bool.not_eq_false, decide_eq_true_eq, inB_true] at h
  omega

theorem checkConfig_ok {c : TCfg} (h : checkConfig c = 0) : CfgOk c := by
  unfold checkConfig at h
  rw [thenE_zero, thenE_zero, thenE_zero, thenE_zero] at h
  obtain ⟨h1, h2, h3, h4, h5⟩ := h
  obtain ⟨a1, a2, a3, a4, a5, a6, a7, a8, a9⟩ := head_ok h1
  refine ⟨a1, a2, a3, a4, a5, a6, a7, a8, a9, fun i hi => ?_, fun i hi => ?_, fun i hi => ?_, fun i hi => ?_⟩
  · have := firstE_zero h2 i hi
    unfold slotErr at this
    rw [ite_zero (by omega), ite_zero (by omega)] at this
    simp only [Bool.not_eq_true', Bool.not_eq_false, isDom_true, inB_true] at this
    omega
  · unfold ownersErr at h3
    rw [ite_zero (by omega)] at h3
    have := anyI_false.1 (by simpa using h3.1) i hi
    have := isDom_true.1 (by simpa using this)
    exact this
  · have := firstE_zero h4 i hi
    unfold chanErr at this
    rw [ite_zero (by omega), ite_zero (by omega), ite_zero (by omega), ite_zero (by omega)] at this
    simp only [Bool.or_eq_true, Bool.not_eq_true', not_or, Bool.not_eq_false, isDom_true, inB_true] at this
    obtain ⟨b1, b2, b3, b4, _⟩ := this
    exact ⟨b1.1, b1.2, b2, b3⟩
  · have := firstE_zero h5 i hi
    unfold taskErr at this
    rw [ite_zero (by omega), ite_zero (by omega)] at this
    simp only [Bool.or_eq_true, Bool.not_eq_true', not_or, Bool.not_eq_false, isDom_true, inB_true] at this
    obtain ⟨b1, ⟨⟨b2, b3⟩, b4⟩, _⟩ := this
    exact ⟨b1, b2, b3, b4⟩

/-- C2 -/
def arrErr (lines : Nat) (x : TArr) : Int := if !inB 0 x.t 100000 then 3 else if !inB 0 x.line ((lines : Int) - 1) then 5 else 0
def checkArrivals (c : TCfg) (l : List TArr) : Int := if 40 < l.length then 2 else firstE l.length fun i => arrErr c.owners.length (nth l i)
theorem checkArrivals_ok {c : TCfg} {l : List TArr} (h : checkArrivals c l = 0) : l.length ≤ 40 ∧ ∀ i, i < l.length → 0 ≤ (nth l i).t ∧ (nth l i).t ≤ 100000 ∧ 0 ≤ (nth l i).line ∧ (nth l i).line < c.owners.length := by
  unfold checkArrivals at h
  rw [ite_zero (by omega)] at h
  refine ⟨by omega, fun i hi => ?_⟩
  have := firstE_zero h.2 i hi
  unfold arrErr at this
  rw [ite_zero (by omega), ite_zero (by omega)] at this
  simp only [Bool.not_eq_true', Bool.not_eq_false, inB_true] at this
  omega
end Go.Proofs.Ytinlmkhlgclbfaa
