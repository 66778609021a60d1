/-
  EncP: configs as bytes: what Encode and Decode must say; what is encoded is decoded as it was, and nothing else is. No program in sight.
-/
import Derived.Test.YtinlmkhlgclbfaaConfigP
namespace Go.Proofs.Ytinlmkhlgclbfaa
open Go.RowKit

def slotB (x : TSlot) : List Int := [x.dom, x.len / 256, x.len % 256]
def chanB (x : TChan) : List Int := [x.src, x.dst, x.size]
def taskB (x : TTask) : List Int := [x.dom, x.period / 256, x.period % 256, x.budget / 256, x.budget % 256, x.dead / 256, x.dead % 256]
def headB (c : TCfg) : List Int := [67, c.sets, c.ways, c.doms, c.pad, c.quantum, (c.slots.length : Int)]
/-- B2 -/
def encB (c : TCfg) : List Int := headB c ++ c.slots.flatMap slotB ++ [(c.owners.length : Int)] ++ c.owners ++ [(c.chans.length : Int)] ++ c.chans.flatMap chanB ++ [(c.tasks.length : Int)] ++ c.tasks.flatMap taskB

/-- where counts stand -/
def cntAt (bs : List Int) (p : Nat) : Nat := (nth bs p).toNat
def q1 (bs : List Int) : Nat := 7 + 3 * cntAt bs 6
def q2 (bs : List Int) : Nat := q1 bs + 1 + cntAt bs (q1 bs)
def q3 (bs : List Int) : Nat := q2 bs + 1 + 3 * cntAt bs (q2 bs)
def q4 (bs : List Int) : Nat := q3 bs + 1 + 7 * cntAt bs (q3 bs)
/-- B3: the place of the first fault; -1: none -/
def decFault (bs : List Int) : Int :=
  if 0 < bs.length ∧ nth bs 0 ≠ 67 then 0
  else if bs.length ≤ 6 then bs.length else if 6 < cntAt bs 6 then 6
  else if bs.length ≤ q1 bs then bs.length else if 4 < cntAt bs (q1 bs) then q1 bs
  else if bs.length ≤ q2 bs then bs.length else if 4 < cntAt bs (q2 bs) then q2 bs
  else if bs.length ≤ q3 bs then bs.length else if 6 < cntAt bs (q3 bs) then q3 bs
  else if bs.length < q4 bs then bs.length else if q4 bs < bs.length then q4 bs else -1
def twoB (bs : List Int) (p : Nat) : Int := 256 * nth bs p + nth bs (p + 1)
def slotAt (bs : List Int) (p : Nat) : TSlot := ⟨nth bs p, twoB bs (p + 1)⟩
def chanAt (bs : List Int) (p : Nat) : TChan := ⟨nth bs p, nth bs (p + 1), nth bs (p + 2)⟩
def taskAt (bs : List Int) (p : Nat) : TTask := ⟨nth bs p, twoB bs (p + 1), twoB bs (p + 3), twoB bs (p + 5)⟩
def slotsAt (bs : List Int) (p n : Nat) : List TSlot := (List.range n).map fun i => slotAt bs (p + 3 * i)
def ownersAt (bs : List Int) (p n : Nat) : List Int := (List.range n).map fun i => nth bs (p + i)
def chansAt (bs : List Int) (p n : Nat) : List TChan := (List.range n).map fun i => chanAt bs (p + 3 * i)
def tasksAt (bs : List Int) (p n : Nat) : List TTask := (List.range n).map fun i => taskAt bs (p + 7 * i)
def decCfg (bs : List Int) : TCfg :=
  { sets := nth bs 1, ways := nth bs 2, doms := nth bs 3, pad := nth bs 4, quantum := nth bs 5
    slots := slotsAt bs 7 (cntAt bs 6), owners := ownersAt bs (q1 bs + 1) (cntAt bs (q1 bs)), chans := chansAt bs (q2 bs + 1) (cntAt bs (q2 bs)), tasks := tasksAt bs (q3 bs + 1) (cntAt bs (q3 bs)) }
def noCfg : TCfg := ⟨0, 0, 0, 0, 0, [], [], [], []⟩
def decErr (bs : List Int) : Int := if 200 < bs.length then 2 else if 0 ≤ decFault bs then 1 else checkConfig (decCfg bs)
def decPlace (bs : List Int) : Int := if 200 < bs.length then 0 else if 0 ≤ decFault bs then decFault bs else 0
def decRes (bs : List Int) : TCfg := if decErr bs = 0 then decCfg bs else noCfg

structure DecOk (bs : List Int) : Prop where
  h0 : nth bs 0 = 67
  n1 : cntAt bs 6 ≤ 6
  n2 : cntAt bs (q1 bs) ≤ 4
  n3 : cntAt bs (q2 bs) ≤ 4
  n4 : cntAt bs (q3 bs) ≤ 6
  len : bs.length = q4 bs
theorem decFault_none {bs : List Int} : decFault bs < 0 ↔ DecOk bs := by
  unfold decFault
  constructor
  · intro h
    suffices hs : nth bs 0 = 67 ∧ cntAt bs 6 ≤ 6 ∧ cntAt bs (q1 bs) ≤ 4 ∧ cntAt bs (q2 bs) ≤ 4 ∧ cntAt bs (q3 bs) ≤ 6 ∧ bs.length = q4 bs from ⟨hs.1, hs.2.1, hs.2.2.1, hs.2.2.2.1, hs.2.2.2.2.1, hs.2.2.2.2.2⟩
    have e1 : q1 bs = 7 + 3 * cntAt bs 6 := rfl
    have e2 : q2 bs = q1 bs + 1 + cntAt bs (q1 bs) := rfl
    have e3 : q3 bs = q2 bs + 1 + 3 * cntAt bs (q2 bs) := rfl
    have e4 : q4 bs = q3 bs + 1 + 7 * cntAt bs (q3 bs) := rfl
    generalize q1 bs = Q1 at *
    generalize q2 bs = Q2 at *
    generalize q3 bs = Q3 at *
    generalize q4 bs = Q4 at *
    by_cases h1 : 0 < bs.length ∧ nth bs 0 ≠ 67
    · rw [if_pos h1] at h; omega
    rw [if_neg h1] at h
    by_cases d1 : bs.length ≤ 6
    · rw [if_pos d1] at h; omega
    rw [if_neg d1] at h
    by_cases d2 : 6 < cntAt bs 6
    · rw [if_pos d2] at h; omega
    rw [if_neg d2] at h
    by_cases d3 : bs.length ≤ Q1
    · rw [if_pos d3] at h; omega
    rw [if_neg d3] at h
    by_cases d4 : 4 < cntAt bs Q1
    · rw [if_pos d4] at h; omega
    rw [if_neg d4] at h
    by_cases d5 : bs.length ≤ Q2
    · rw [if_pos d5] at h; omega
    rw [if_neg d5] at h
    by_cases d6 : 4 < cntAt bs Q2
    · rw [if_pos d6] at h; omega
    rw [if_neg d6] at h
    by_cases d7 : bs.length ≤ Q3
    · rw [if_pos d7] at h; omega
    rw [if_neg d7] at h
    by_cases d8 : 6 < cntAt bs Q3
    · rw [if_pos d8] at h; omega
    rw [if_neg d8] at h
    by_cases d9 : bs.length < Q4
    · rw [if_pos d9] at h; omega
    rw [if_neg d9] at h
    by_cases d10 : Q4 < bs.length
    · rw [if_pos d10] at h; omega
    refine ⟨Decidable.byContradiction fun e => h1 ⟨by omega, e⟩, by omega, by omega, by omega, by omega, by omega⟩
  · rintro ⟨h0, n1, n2, n3, n4, hl⟩
    have e1 : q1 bs = 7 + 3 * cntAt bs 6 := rfl
    have e2 : q2 bs = q1 bs + 1 + cntAt bs (q1 bs) := rfl
    have e3 : q3 bs = q2 bs + 1 + 3 * cntAt bs (q2 bs) := rfl
    have e4 : q4 bs = q3 bs + 1 + 7 * cntAt bs (q3 bs) := rfl
    rw [if_neg (by simp [h0]), if_neg (by omega), if_neg (by omega), if_neg (by omega), if_neg (by omega), if_neg (by omega), if_neg (by omega), if_neg (by omega), if_neg (by omega), if_neg (by omega), if_neg (by omega)]
    omega

/-- chunks of k, one behind the other -/
theorem chunks {k : Nat} : ∀ (n : Nat) (bs : List Int) (p : Nat), p + k * n ≤ bs.length → (List.range n).flatMap (fun i => (List.range k).map fun j => nth bs (p + k * i + j)) = (bs.drop p).take (k * n) := by
  intro n
  induction n with
  | zero => intro bs p h; simp
  | succ n ih =>
    intro bs p h
    rw [Nat.mul_add, Nat.mul_one] at h
    rw [List.range_succ, List.flatMap_append, ih bs p (by omega), Nat.mul_add, Nat.mul_one, List.take_add]
    congr 1
    rw [List.flatMap_cons, List.flatMap_nil, List.append_nil]
    refine List.ext_getElem (by simp; omega) fun i h1 h2 => ?_
    simp at h1
    rw [List.getElem_map, List.getElem_range, List.getElem_take, List.getElem_drop, List.getElem_drop, nth_eq (by omega)]
    congr 1
    omega

theorem range_flat {S T : Type} (n : Nat) (f : Nat → S) (g : S → List T) (h : Nat → List T) (e : ∀ i, i < n → g (f i) = h i) : ((List.range n).map f).flatMap g = (List.range n).flatMap h := by
  rw [List.flatMap_map]
  have : ∀ l : List Nat, (∀ i ∈ l, i < n) → l.flatMap (fun i => g (f i)) = l.flatMap h := by
    intro l
    induction l with
    | nil => intro _; rfl
    | cons a l ih => intro hl; rw [List.flatMap_cons, List.flatMap_cons, ih fun i hi => hl i (by simp [hi]), e a (hl a (by simp))]
  exact this _ fun i hi => List.mem_range.1 hi

def Bytes (bs : List Int) : Prop := ∀ i, i < bs.length → 0 ≤ nth bs i ∧ nth bs i ≤ 255
theorem two_div {a b : Int} (hb : 0 ≤ b ∧ b ≤ 255) : (256 * a + b) / 256 = a ∧ (256 * a + b) % 256 = b := by omega

theorem enc_dec {bs : List Int} (hb : Bytes bs) (h : DecOk bs) : encB (decCfg bs) = bs := by
  have e1 : q1 bs = 7 + 3 * cntAt bs 6 := rfl
  have e2 : q2 bs = q1 bs + 1 + cntAt bs (q1 bs) := rfl
  have e3 : q3 bs = q2 bs + 1 + 3 * cntAt bs (q2 bs) := rfl
  have e4 : q4 bs = q3 bs + 1 + 7 * cntAt bs (q3 bs) := rfl
  have hl := h.len
  have hc : ∀ p, p < bs.length → ((cntAt bs p : Nat) : Int) = nth bs p := fun p hp => by have := hb p hp; unfold cntAt; omega
  have s1 : (slotsAt bs 7 (cntAt bs 6)).flatMap slotB = (bs.drop 7).take (3 * cntAt bs 6) := by
    rw [← chunks _ bs 7 (by omega)]
    unfold slotsAt
    refine range_flat _ _ _ _ fun i hi => ?_
    have := two_div (a := nth bs (7 + 3 * i + 1)) (hb (7 + 3 * i + 1 + 1) (by omega))
    simp [slotB, slotAt, twoB, this, List.range_succ]
  have s2 : ownersAt bs (q1 bs + 1) (cntAt bs (q1 bs)) = (bs.drop (q1 bs + 1)).take (cntAt bs (q1 bs)) := by
    refine List.ext_getElem (by simp [ownersAt]; omega) fun i h1 h2 => ?_
    simp [ownersAt] at h1
    simp only [ownersAt, List.getElem_map, List.getElem_range, List.getElem_take, List.getElem_drop]
    rw [nth_eq (by omega)]
  have s3 : (chansAt bs (q2 bs + 1) (cntAt bs (q2 bs))).flatMap chanB = (bs.drop (q2 bs + 1)).take (3 * cntAt bs (q2 bs)) := by
    rw [← chunks _ bs (q2 bs + 1) (by omega)]
    unfold chansAt
    refine range_flat _ _ _ _ fun i hi => ?_
    simp [chanB, chanAt, List.range_succ]
  have s4 : (tasksAt bs (q3 bs + 1) (cntAt bs (q3 bs))).flatMap taskB = (bs.drop (q3 bs + 1)).take (7 * cntAt bs (q3 bs)) := by
    rw [← chunks _ bs (q3 bs + 1) (by omega)]
    unfold tasksAt
    refine range_flat _ _ _ _ fun i hi => ?_
    have t1 := two_div (a := nth bs (q3 bs + 1 + 7 * i + 1)) (hb (q3 bs + 1 + 7 * i + 1 + 1) (by omega))
    have t2 := two_div (a := nth bs (q3 bs + 1 + 7 * i + 3)) (hb (q3 bs + 1 + 7 * i + 3 + 1) (by omega))
    have t3 := two_div (a := nth bs (q3 bs + 1 + 7 * i + 5)) (hb (q3 bs + 1 + 7 * i + 5 + 1) (by omega))
    simp [taskB, taskAt, twoB, t1, t2, t3, List.range_succ]
  have hd : headB (decCfg bs) = bs.take 7 := by
    refine List.ext_getElem (by simp [headB]; omega) fun i h1 h2 => ?_
    have h1' : i < 7 := h1
    have h6 := hc 6 (by omega)
    have h0 := h.h0
    rw [List.getElem_take, ← nth_eq h1, ← nth_eq (xs := bs) (show i < bs.length by omega)]
    have hcases : i = 0 ∨ i = 1 ∨ i = 2 ∨ i = 3 ∨ i = 4 ∨ i = 5 ∨ i = 6 := by omega
    rcases hcases with rfl | rfl | rfl | rfl | rfl | rfl | rfl
    · exact h0.symm
    · rfl
    · rfl
    · rfl
    · rfl
    · rfl
    · show ((slotsAt bs 7 (cntAt bs 6)).length : Int) = _
      simp [slotsAt, h6]
  have one : ∀ p, p < bs.length → [nth bs p] = (bs.drop p).take 1 := by
    intro p hp
    rw [List.drop_eq_getElem_cons hp, List.take_succ_cons, List.take_zero, nth_eq hp]
  unfold encB
  rw [hd]
  show bs.take 7 ++ (slotsAt bs 7 (cntAt bs 6)).flatMap slotB ++ [((ownersAt bs (q1 bs + 1) (cntAt bs (q1 bs))).length : Int)] ++ ownersAt bs (q1 bs + 1) (cntAt bs (q1 bs)) ++ [((chansAt bs (q2 bs + 1) (cntAt bs (q2 bs))).length : Int)] ++
    (chansAt bs (q2 bs + 1) (cntAt bs (q2 bs))).flatMap chanB ++ [((tasksAt bs (q3 bs + 1) (cntAt bs (q3 bs))).length : Int)] ++ (tasksAt bs (q3 bs + 1) (cntAt bs (q3 bs))).flatMap taskB = bs
  rw [s1, s3, s4]
  have l2 : ((ownersAt bs (q1 bs + 1) (cntAt bs (q1 bs))).length : Int) = nth bs (q1 bs) := by simp [ownersAt, hc _ (show q1 bs < bs.length by omega)]
  have l3 : ((chansAt bs (q2 bs + 1) (cntAt bs (q2 bs))).length : Int) = nth bs (q2 bs) := by simp [chansAt, hc _ (show q2 bs < bs.length by omega)]
  have l4 : ((tasksAt bs (q3 bs + 1) (cntAt bs (q3 bs))).length : Int) = nth bs (q3 bs) := by simp [tasksAt, hc _ (show q3 bs < bs.length by omega)]
  rw [l2, l3, l4, s2, one _ (by omega), one _ (by omega), one _ (by omega)]
  have glue : ∀ a b c, b = a + c → bs.take a ++ (bs.drop a).take c = bs.take b := by intro a b c e; subst e; rw [List.take_add]
  rw [glue 7 (q1 bs) _ (by omega), glue (q1 bs) (q1 bs + 1) _ rfl, glue (q1 bs + 1) (q2 bs) _ (by omega), glue (q2 bs) (q2 bs + 1) _ rfl, glue (q2 bs + 1) (q3 bs) _ (by omega), glue (q3 bs) (q3 bs + 1) _ rfl, glue (q3 bs + 1) (q4 bs) _ (by omega), ← hl, List.take_length]

theorem nth_append_right {T : Type} [Inhabited T] {xs ys : List T} {i : Nat} (h : xs.length ≤ i) : nth (xs ++ ys) i = nth ys (i - xs.length) := by
  unfold nth; rw [List.getD_eq_getElem?_getD, List.getElem?_append_right h, List.getD_eq_getElem?_getD]
theorem nth_flatMap {S : Type} [Inhabited S] {f : S → List Int} {k : Nat} (hf : ∀ x, (f x).length = k) : ∀ (l : List S) (q r : Nat), q < l.length → r < k → nth (l.flatMap f) (k * q + r) = nth (f (nth l q)) r := by
  intro l
  induction l with
  | nil => intro q r hq; simp at hq
  | cons x l ih =>
    intro q r hq hr
    rw [List.flatMap_cons]
    cases q with
    | zero => rw [Nat.mul_zero, Nat.zero_add, nth_append_left (by rw [hf]; exact hr)]; rfl
    | succ q =>
      rw [nth_append_right (by rw [hf, Nat.mul_add]; omega), hf, Nat.mul_add]
      rw [show k * q + k * 1 + r - k = k * q + r by omega]
      exact ih q r (by simpa using hq) hr
theorem flatMap_length {S : Type} {f : S → List Int} {k : Nat} (hf : ∀ x, (f x).length = k) (l : List S) : (l.flatMap f).length = k * l.length := by
  induction l with
  | nil => rfl
  | cons x l ih => rw [List.flatMap_cons, List.length_append, ih, hf, List.length_cons, Nat.mul_add]; omega
theorem map_nth {S : Type} [Inhabited S] (l : List S) (f : Nat → S) (n : Nat) (hn : n = l.length) (h : ∀ i, i < l.length → f i = nth l i) : (List.range n).map f = l := by
  subst hn
  refine List.ext_getElem (by simp) fun i h1 h2 => ?_
  rw [List.getElem_map, List.getElem_range, h i h2, nth_eq h2]

/-- where the parts of what was encoded lie -/
theorem enc_nth (c : TCfg) :
    (∀ j, j < 7 → nth (encB c) j = nth (headB c) j) ∧ (∀ i r, i < c.slots.length → r < 3 → nth (encB c) (7 + 3 * i + r) = nth (slotB (nth c.slots i)) r) ∧
    nth (encB c) (7 + 3 * c.slots.length) = c.owners.length ∧ (∀ i, i < c.owners.length → nth (encB c) (7 + 3 * c.slots.length + 1 + i) = nth c.owners i) ∧
    nth (encB c) (7 + 3 * c.slots.length + 1 + c.owners.length) = c.chans.length ∧ (∀ i r, i < c.chans.length → r < 3 → nth (encB c) (7 + 3 * c.slots.length + 1 + c.owners.length + 1 + 3 * i + r) = nth (chanB (nth c.chans i)) r) ∧
    nth (encB c) (7 + 3 * c.slots.length + 1 + c.owners.length + 1 + 3 * c.chans.length) = c.tasks.length ∧ (∀ i r, i < c.tasks.length → r < 7 → nth (encB c) (7 + 3 * c.slots.length + 1 + c.owners.length + 1 + 3 * c.chans.length + 1 + 7 * i + r) = nth (taskB (nth c.tasks i)) r) ∧
    (encB c).length = 7 + 3 * c.slots.length + 1 + c.owners.length + 1 + 3 * c.chans.length + 1 + 7 * c.tasks.length := by
  have f1 := flatMap_length (f := slotB) (k := 3) (fun _ => rfl) c.slots
  have f3 := flatMap_length (f := chanB) (k := 3) (fun _ => rfl) c.chans
  have f4 := flatMap_length (f := taskB) (k := 7) (fun _ => rfl) c.tasks
  have hh : (headB c).length = 7 := rfl
  refine ⟨fun j hj => ?_, fun i r hi hr => ?_, ?_, fun i hi => ?_, ?_, fun i r hi hr => ?_, ?_, fun i r hi hr => ?_, ?_⟩
  · unfold encB
    simp only [List.append_assoc]
    rw [nth_append_left (by rw [hh]; exact hj)]
  · unfold encB
    simp only [List.append_assoc]
    rw [nth_append_right (by rw [hh]; omega), nth_append_left (by rw [f1, hh]; omega), hh, show 7 + 3 * i + r - 7 = 3 * i + r by omega]
    exact nth_flatMap (k := 3) (fun _ => rfl) _ _ _ hi hr
  · unfold encB
    simp only [List.append_assoc]
    rw [nth_append_right (by rw [hh]; omega), nth_append_right (by rw [f1, hh]; omega), hh, f1, nth_append_left (by simp; try omega), show 7 + 3 * c.slots.length - 7 - 3 * c.slots.length = 0 by omega]; rfl
  · unfold encB
    simp only [List.append_assoc]
    rw [nth_append_right (by rw [hh]; omega), nth_append_right (by rw [f1, hh]; omega), hh, f1, nth_append_right (by simp; omega), nth_append_left (by simp; omega)]
    congr 1; simp; omega
  · unfold encB
    simp only [List.append_assoc]
    rw [nth_append_right (by rw [hh]; omega), nth_append_right (by rw [f1, hh]; omega), hh, f1, nth_append_right (by simp; omega), nth_append_right (by simp; omega), nth_append_left (by simp; omega)]
    simp only [List.length_singleton]
    rw [show 7 + 3 * c.slots.length + 1 + c.owners.length - 7 - 3 * c.slots.length - 1 - c.owners.length = 0 by omega]; rfl
  · unfold encB
    simp only [List.append_assoc]
    rw [nth_append_right (by rw [hh]; omega), nth_append_right (by rw [f1, hh]; omega), hh, f1, nth_append_right (by simp; omega), nth_append_right (by simp; omega), nth_append_right (by simp; omega), nth_append_left (by rw [f3]; simp; omega)]
    simp only [List.length_singleton]
    rw [show 7 + 3 * c.slots.length + 1 + c.owners.length + 1 + 3 * i + r - 7 - 3 * c.slots.length - 1 - c.owners.length - 1 = 3 * i + r by omega]
    exact nth_flatMap (k := 3) (fun _ => rfl) _ _ _ hi hr
  · unfold encB
    simp only [List.append_assoc]
    rw [nth_append_right (by rw [hh]; omega), nth_append_right (by rw [f1, hh]; omega), hh, f1, nth_append_right (by simp; omega), nth_append_right (by simp; omega), nth_append_right (by simp; omega), nth_append_right (by rw [f3]; simp; omega), f3, nth_append_left (by simp; omega)]
    simp only [List.length_singleton]
    rw [show 7 + 3 * c.slots.length + 1 + c.owners.length + 1 + 3 * c.chans.length - 7 - 3 * c.slots.length - 1 - c.owners.length - 1 - 3 * c.chans.length = 0 by omega]; rfl
  · unfold encB
    simp only [List.append_assoc]
    rw [nth_append_right (by rw [hh]; omega), nth_append_right (by rw [f1, hh]; omega), hh, f1, nth_append_right (by simp; omega), nth_append_right (by simp; omega), nth_append_right (by simp; omega), nth_append_right (by rw [f3]; simp; omega), f3, nth_append_right (by simp; omega)]
    simp only [List.length_singleton]
    rw [show 7 + 3 * c.slots.length + 1 + c.owners.length + 1 + 3 * c.chans.length + 1 + 7 * i + r - 7 - 3 * c.slots.length - 1 - c.owners.length - 1 - 3 * c.chans.length - 1 = 7 * i + r by omega]
    exact nth_flatMap (k := 7) (fun _ => rfl) _ _ _ hi hr
  · unfold encB
    simp only [List.length_append, f1, f3, f4, hh, List.length_singleton]

theorem dec_enc {c : TCfg} (h : CfgOk c) : DecOk (encB c) ∧ decCfg (encB c) = c ∧ (encB c).length ≤ 200 := by
  obtain ⟨e1, e2, e3, e4, e5, e6, e7, e8, e9⟩ := enc_nth c
  have c6 : cntAt (encB c) 6 = c.slots.length := by unfold cntAt; rw [e1 6 (by omega)]; simp [headB, nth]
  have k1 : q1 (encB c) = 7 + 3 * c.slots.length := by unfold q1; rw [c6]
  have c7 : cntAt (encB c) (q1 (encB c)) = c.owners.length := by rw [k1]; unfold cntAt; rw [e3]; simp
  have k2 : q2 (encB c) = 7 + 3 * c.slots.length + 1 + c.owners.length := by unfold q2; rw [c7, k1]
  have c8 : cntAt (encB c) (q2 (encB c)) = c.chans.length := by rw [k2]; unfold cntAt; rw [e5]; simp
  have k3 : q3 (encB c) = 7 + 3 * c.slots.length + 1 + c.owners.length + 1 + 3 * c.chans.length := by unfold q3; rw [c8, k2]
  have c9 : cntAt (encB c) (q3 (encB c)) = c.tasks.length := by rw [k3]; unfold cntAt; rw [e7]; simp
  have k4 : q4 (encB c) = 7 + 3 * c.slots.length + 1 + c.owners.length + 1 + 3 * c.chans.length + 1 + 7 * c.tasks.length := by unfold q4; rw [c9, k3]
  have g1 := h.nslots; have g2 := h.nowners; have g3 := h.nchans; have g4 := h.ntasks
  refine ⟨⟨by rw [e1 0 (by omega)]; rfl, by omega, by omega, by omega, by omega, by rw [k4, e9]⟩, ?_, by omega⟩
  have m1 : slotsAt (encB c) 7 (cntAt (encB c) 6) = c.slots := by
    rw [c6]
    refine map_nth _ _ _ rfl fun i hi => ?_
    unfold slotAt twoB
    rw [e2 i 1 hi (by omega), show 7 + 3 * i + 1 + 1 = 7 + 3 * i + 2 by omega, e2 i 2 hi (by omega), show nth (encB c) (7 + 3 * i) = _ from e2 i 0 hi (by omega)]
    simp only [slotB, nth, List.getD_cons_zero, List.getD_cons_succ]
    generalize c.slots.getD i default = x
    cases x with
    | mk a b => simp only [TSlot.mk.injEq, true_and]; omega
  have m2 : ownersAt (encB c) (q1 (encB c) + 1) (cntAt (encB c) (q1 (encB c))) = c.owners := by
    rw [c7, k1]
    exact map_nth _ _ _ rfl fun i hi => e4 i hi
  have m3 : chansAt (encB c) (q2 (encB c) + 1) (cntAt (encB c) (q2 (encB c))) = c.chans := by
    rw [c8, k2]
    refine map_nth _ _ _ rfl fun i hi => ?_
    unfold chanAt
    rw [e6 i 1 hi (by omega), e6 i 2 hi (by omega), show nth (encB c) (7 + 3 * c.slots.length + 1 + c.owners.length + 1 + 3 * i) = _ from e6 i 0 hi (by omega)]
    rfl
  have m4 : tasksAt (encB c) (q3 (encB c) + 1) (cntAt (encB c) (q3 (encB c))) = c.tasks := by
    rw [c9, k3]
    refine map_nth _ _ _ rfl fun i hi => ?_
    have t := fun r hr => e8 i r hi hr
    unfold taskAt twoB
    generalize hp : 7 + 3 * c.slots.length + 1 + c.owners.length + 1 + 3 * c.chans.length + 1 + 7 * i = p at *
    rw [show nth (encB c) p = _ from t 0 (by omega), show nth (encB c) (p + 1) = _ from t 1 (by omega), show nth (encB c) (p + 1 + 1) = _ from t 2 (by omega), show nth (encB c) (p + 3) = _ from t 3 (by omega), show nth (encB c) (p + 3 + 1) = _ from t 4 (by omega), show nth (encB c) (p + 5) = _ from t 5 (by omega), show nth (encB c) (p + 5 + 1) = _ from t 6 (by omega)]
    simp only [taskB, nth, List.getD_cons_zero, List.getD_cons_succ]
    generalize c.tasks.getD i default = x
    cases x with
    | mk a b d e => simp only [TTask.mk.injEq, true_and]; omega
  unfold decCfg
  rw [m1, m2, m3, m4, e1 1 (by omega), e1 2 (by omega), e1 3 (by omega), e1 4 (by omega), e1 5 (by omega)]
  rfl
theorem enc_bytes {c : TCfg} (h : CfgOk c) : ∀ x ∈ encB c, 0 ≤ x ∧ x ≤ 255 := by
  have hs : ∀ x ∈ c.slots, 0 ≤ x.dom ∧ x.dom < c.doms ∧ 100 ≤ x.len ∧ x.len ≤ 1000 := fun x hx => by obtain ⟨i, hi, rfl⟩ := List.getElem_of_mem hx; rw [← nth_eq hi]; exact h.slot i hi
  have ho : ∀ x ∈ c.owners, 0 ≤ x ∧ x < c.doms := fun x hx => by obtain ⟨i, hi, rfl⟩ := List.getElem_of_mem hx; rw [← nth_eq hi]; exact h.owner i hi
  have hc : ∀ x ∈ c.chans, (0 ≤ x.src ∧ x.src < c.doms) ∧ (0 ≤ x.dst ∧ x.dst < c.doms) ∧ x.src ≠ x.dst ∧ 1 ≤ x.size ∧ x.size ≤ 4 := fun x hx => by obtain ⟨i, hi, rfl⟩ := List.getElem_of_mem hx; rw [← nth_eq hi]; exact h.chan i hi
  have ht : ∀ x ∈ c.tasks, (0 ≤ x.dom ∧ x.dom < c.doms) ∧ (1 ≤ x.period ∧ x.period ≤ 5000) ∧ (1 ≤ x.budget ∧ x.budget ≤ x.period) ∧ (1 ≤ x.dead ∧ x.dead ≤ x.period) := fun x hx => by obtain ⟨i, hi, rfl⟩ := List.getElem_of_mem hx; rw [← nth_eq hi]; exact h.task i hi
  have g1 := h.nslots; have g2 := h.nowners; have g3 := h.nchans; have g4 := h.ntasks
  have d1 := h.sets; have d2 := h.ways; have d3 := h.doms; have d4 := h.pad; have d5 := h.quantum
  have d6 : 0 ≤ 5 * c.sets * c.ways := Int.mul_nonneg (by omega) (by omega)
  intro x hx
  unfold encB at hx
  simp only [List.mem_append, List.mem_flatMap, List.mem_singleton, headB, List.mem_cons, List.not_mem_nil, or_false] at hx
  rcases hx with ((((((hx | ⟨y, hy, hx⟩) | hx) | hx) | hx) | ⟨y, hy, hx⟩) | hx) | ⟨y, hy, hx⟩
  · omega
  · have := hs y hy; simp only [slotB, List.mem_cons, List.not_mem_nil, or_false] at hx; omega
  · omega
  · have := ho x hx; omega
  · omega
  · have := hc y hy; simp only [chanB, List.mem_cons, List.not_mem_nil, or_false] at hx; omega
  · omega
  · have := ht y hy; simp only [taskB, List.mem_cons, List.not_mem_nil, or_false] at hx; omega
end Go.Proofs.Ytinlmkhlgclbfaa
