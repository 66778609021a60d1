/-
  DecE: the reader's four counts: what many does with each function literal.
-/
import Derived.Test.YtinlmkhlgclbfaaDecD
namespace Go.Proofs.Ytinlmkhlgclbfaa
open Go.RowKit
set_option maxRecDepth 100000
set_option maxHeartbeats 1000000

/-- a count at p, of things of k bytes, at most m: the place where it gives up -/
def PF (bs : List Int) (p k m n : Nat) : Prop := (bs.length ≤ p ∧ n = bs.length) ∨ (p < bs.length ∧ m < cntAt bs p ∧ n = p) ∨ (p < bs.length ∧ cntAt bs p ≤ m ∧ bs.length < p + 1 + k * cntAt bs p ∧ n = bs.length)
def PG (bs : List Int) (p k m : Nat) : Prop := p < bs.length ∧ cntAt bs p ≤ m ∧ p + 1 + k * cntAt bs p ≤ bs.length
theorem enters_c1 : Enters Try.prog 133 := fun _ _ => by kernel_rfl
theorem enters_c2 : Enters Try.prog 135 := fun _ _ => by kernel_rfl
theorem enters_c3 : Enters Try.prog 136 := fun _ _ => by kernel_rfl
theorem enters_c4 : Enters Try.prog 137 := fun _ _ => by kernel_rfl

theorem phaseS {g gb gc : Nat} (La : g < gb) (Lb : gb < gc) {s : ByteArray} {p : Nat} {h0 h1 h2 h3 h4 v1 v2 v3 : Value} {w : World} (hw : gc < w.heap.size) (hp : p ≤ 300) (hs : s.size ≤ 300) (hr : Rd g w s p) (hb : Bx g gb w) (hc : w.heap[gc]? = some (.cells #[h0, h1, h2, h3, h4, .slice none 0 0, v1, v2, v3] 63)) :
    Calls Try.prog 132 #[.pointer (some ⟨g, 0, none⟩), .int .i64 6, .func (.func 133) #[] #[.pointer (some ⟨gc, 0, none⟩), .pointer (some ⟨gb, 0, none⟩)]] w
      fun en w' => (en = .returned (.tuple #[]) ∧ PG (bytesOf s) p 3 6 ∧ InvS g gb gc w.heap.size s (p + 1) h0 h1 h2 h3 h4 v1 v2 v3 w (cntAt (bytesOf s) p) w' ∧ Below g w w') ∨ (∃ n, PF (bytesOf s) p 3 6 n ∧ Gives g n w en w') := by
  have hlen := bytesOf_length s
  by_cases t0 : s.size ≤ p
  · refine (readerManyEnd s g p 6 w hr t0 (by omega) _).mono fun e w' h => .inr ⟨s.size, .inl ⟨by omega, by omega⟩, h⟩
  by_cases t1 : 6 < cntAt (bytesOf s) p
  · refine (readerManyBad s g p 6 w hr (by omega) (by omega) t1 _).mono fun e w' h => .inr ⟨p, .inr (.inl ⟨by omega, t1, rfl⟩), h⟩
  have L : Lay g gb gc w.heap.size := ⟨La, Lb, hw⟩
  refine (readerMany s g p 6 w hr (by omega) (by omega) (by omega) 133 #[.pointer (some ⟨gc, 0, none⟩), .pointer (some ⟨gb, 0, none⟩)] (fun i W => p + 1 + 3 * i ≤ s.size ∧ InvS g gb gc w.heap.size s (p + 1) h0 h1 h2 h3 h4 v1 v2 v3 w i W) (s.size < p + 1 + 3 * cntAt (bytesOf s) p) enters_c1 ?_ (by omega) ?_).mono ?_
  · intro w' hr' hk
    refine ⟨by omega, none, 0, hr', (hk.block gb (by omega) (by omega) (by simp)).trans hb, (hk.block gc hw (by omega) (by simp)).trans hc, World.ownsRow_nil _ _ _ _, fun b hb' => ?_, hk.below.size⟩
    simp only [Mid] at hb'
    exact hk.block b hb'.2.2 (by omega) (by simp)
  · intro i hi W hI hbl
    obtain ⟨hsz, hI⟩ := hI
    by_cases t2 : p + 1 + 3 * i + 2 < s.size
    · refine (turnS L (by omega) t2 (by omega) hI).mono ?_
      rintro e w' ⟨rfl, h1, h2⟩
      exact .inl ⟨rfl, ⟨by omega, h1⟩, h2⟩
    · refine (turnSEnd L (by omega) (by omega) (by omega) (by omega) hI).mono fun e w' h => .inr ⟨h, by omega⟩
  · rintro e w' (⟨rfl, ⟨hsz, hI⟩, hb2⟩ | ⟨h, hbad⟩)
    · exact .inl ⟨rfl, ⟨by omega, by omega, by omega⟩, hI, hb2⟩
    · exact .inr ⟨s.size, .inr (.inr ⟨by omega, by omega, by omega, by omega⟩), h⟩

theorem phaseO {g gb gc : Nat} (La : g < gb) (Lb : gb < gc) {s : ByteArray} {p : Nat} {h0 h1 h2 h3 h4 v0 v2 v3 : Value} {w : World} (hw : gc < w.heap.size) (hp : p ≤ 300) (hs : s.size ≤ 300) (hr : Rd g w s p) (hb : Bx g gb w) (hc : w.heap[gc]? = some (.cells #[h0, h1, h2, h3, h4, v0, .slice none 0 0, v2, v3] 63)) :
    Calls Try.prog 132 #[.pointer (some ⟨g, 0, none⟩), .int .i64 4, .func (.func 135) #[] #[.pointer (some ⟨gc, 0, none⟩), .pointer (some ⟨gb, 0, none⟩)]] w
      fun en w' => (en = .returned (.tuple #[]) ∧ PG (bytesOf s) p 1 4 ∧ InvO g gb gc w.heap.size s (p + 1) h0 h1 h2 h3 h4 v0 v2 v3 w (cntAt (bytesOf s) p) w' ∧ Below g w w') ∨ (∃ n, PF (bytesOf s) p 1 4 n ∧ Gives g n w en w') := by
  have hlen := bytesOf_length s
  by_cases t0 : s.size ≤ p
  · refine (readerManyEnd s g p 4 w hr t0 (by omega) _).mono fun e w' h => .inr ⟨s.size, .inl ⟨by omega, by omega⟩, h⟩
  by_cases t1 : 4 < cntAt (bytesOf s) p
  · refine (readerManyBad s g p 4 w hr (by omega) (by omega) t1 _).mono fun e w' h => .inr ⟨p, .inr (.inl ⟨by omega, t1, rfl⟩), h⟩
  have L : Lay g gb gc w.heap.size := ⟨La, Lb, hw⟩
  refine (readerMany s g p 4 w hr (by omega) (by omega) (by omega) 135 #[.pointer (some ⟨gc, 0, none⟩), .pointer (some ⟨gb, 0, none⟩)] (fun i W => p + 1 + i ≤ s.size ∧ InvO g gb gc w.heap.size s (p + 1) h0 h1 h2 h3 h4 v0 v2 v3 w i W) (s.size < p + 1 + 1 * cntAt (bytesOf s) p) enters_c2 ?_ (by omega) ?_).mono ?_
  · intro w' hr' hk
    refine ⟨by omega, none, 0, hr', (hk.block gb (by omega) (by omega) (by simp)).trans hb, (hk.block gc hw (by omega) (by simp)).trans hc, World.ownsRow_nil _ _ _ _, fun b hb' => ?_, hk.below.size⟩
    simp only [Mid] at hb'
    exact hk.block b hb'.2.2 (by omega) (by simp)
  · intro i hi W hI hbl
    obtain ⟨hsz, hI⟩ := hI
    by_cases t2 : p + 1 + i  < s.size
    · refine (turnO L (by omega) t2 (by omega) hI).mono ?_
      rintro e w' ⟨rfl, h1, h2⟩
      exact .inl ⟨rfl, ⟨by omega, h1⟩, h2⟩
    · refine (turnOEnd L (by omega) (by omega) (by omega) hI).mono fun e w' h => .inr ⟨h, by omega⟩
  · rintro e w' (⟨rfl, ⟨hsz, hI⟩, hb2⟩ | ⟨h, hbad⟩)
    · exact .inl ⟨rfl, ⟨by omega, by omega, by omega⟩, hI, hb2⟩
    · exact .inr ⟨s.size, .inr (.inr ⟨by omega, by omega, by omega, by omega⟩), h⟩

theorem phaseC {g gb gc : Nat} (La : g < gb) (Lb : gb < gc) {s : ByteArray} {p : Nat} {h0 h1 h2 h3 h4 v0 v1 v3 : Value} {w : World} (hw : gc < w.heap.size) (hp : p ≤ 300) (hs : s.size ≤ 300) (hr : Rd g w s p) (hb : Bx g gb w) (hc : w.heap[gc]? = some (.cells #[h0, h1, h2, h3, h4, v0, v1, .slice none 0 0, v3] 63)) :
    Calls Try.prog 132 #[.pointer (some ⟨g, 0, none⟩), .int .i64 4, .func (.func 136) #[] #[.pointer (some ⟨gb, 0, none⟩), .pointer (some ⟨gc, 0, none⟩)]] w
      fun en w' => (en = .returned (.tuple #[]) ∧ PG (bytesOf s) p 3 4 ∧ InvC g gb gc w.heap.size s (p + 1) h0 h1 h2 h3 h4 v0 v1 v3 w (cntAt (bytesOf s) p) w' ∧ Below g w w') ∨ (∃ n, PF (bytesOf s) p 3 4 n ∧ Gives g n w en w') := by
  have hlen := bytesOf_length s
  by_cases t0 : s.size ≤ p
  · refine (readerManyEnd s g p 4 w hr t0 (by omega) _).mono fun e w' h => .inr ⟨s.size, .inl ⟨by omega, by omega⟩, h⟩
  by_cases t1 : 4 < cntAt (bytesOf s) p
  · refine (readerManyBad s g p 4 w hr (by omega) (by omega) t1 _).mono fun e w' h => .inr ⟨p, .inr (.inl ⟨by omega, t1, rfl⟩), h⟩
  have L : Lay g gb gc w.heap.size := ⟨La, Lb, hw⟩
  refine (readerMany s g p 4 w hr (by omega) (by omega) (by omega) 136 #[.pointer (some ⟨gb, 0, none⟩), .pointer (some ⟨gc, 0, none⟩)] (fun i W => p + 1 + 3 * i ≤ s.size ∧ InvC g gb gc w.heap.size s (p + 1) h0 h1 h2 h3 h4 v0 v1 v3 w i W) (s.size < p + 1 + 3 * cntAt (bytesOf s) p) enters_c3 ?_ (by omega) ?_).mono ?_
  · intro w' hr' hk
    refine ⟨by omega, none, 0, hr', (hk.block gb (by omega) (by omega) (by simp)).trans hb, (hk.block gc hw (by omega) (by simp)).trans hc, World.ownsRow_nil _ _ _ _, fun b hb' => ?_, hk.below.size⟩
    simp only [Mid] at hb'
    exact hk.block b hb'.2.2 (by omega) (by simp)
  · intro i hi W hI hbl
    obtain ⟨hsz, hI⟩ := hI
    by_cases t2 : p + 1 + 3 * i + 2 < s.size
    · refine (turnC L (by omega) t2 (by omega) hI).mono ?_
      rintro e w' ⟨rfl, h1, h2⟩
      exact .inl ⟨rfl, ⟨by omega, h1⟩, h2⟩
    · refine (turnCEnd L (by omega) (by omega) (by omega) (by omega) hI).mono fun e w' h => .inr ⟨h, by omega⟩
  · rintro e w' (⟨rfl, ⟨hsz, hI⟩, hb2⟩ | ⟨h, hbad⟩)
    · exact .inl ⟨rfl, ⟨by omega, by omega, by omega⟩, hI, hb2⟩
    · exact .inr ⟨s.size, .inr (.inr ⟨by omega, by omega, by omega, by omega⟩), h⟩

theorem phaseT {g gb gc : Nat} (La : g < gb) (Lb : gb < gc) {s : ByteArray} {p : Nat} {h0 h1 h2 h3 h4 v0 v1 v2 : Value} {w : World} (hw : gc < w.heap.size) (hp : p ≤ 300) (hs : s.size ≤ 300) (hr : Rd g w s p) (hb : Bx g gb w) (hc : w.heap[gc]? = some (.cells #[h0, h1, h2, h3, h4, v0, v1, v2, .slice none 0 0] 63)) :
    Calls Try.prog 132 #[.pointer (some ⟨g, 0, none⟩), .int .i64 6, .func (.func 137) #[] #[.pointer (some ⟨gb, 0, none⟩), .pointer (some ⟨gc, 0, none⟩)]] w
      fun en w' => (en = .returned (.tuple #[]) ∧ PG (bytesOf s) p 7 6 ∧ InvT g gb gc w.heap.size s (p + 1) h0 h1 h2 h3 h4 v0 v1 v2 w (cntAt (bytesOf s) p) w' ∧ Below g w w') ∨ (∃ n, PF (bytesOf s) p 7 6 n ∧ Gives g n w en w') := by
  have hlen := bytesOf_length s
  by_cases t0 : s.size ≤ p
  · refine (readerManyEnd s g p 6 w hr t0 (by omega) _).mono fun e w' h => .inr ⟨s.size, .inl ⟨by omega, by omega⟩, h⟩
  by_cases t1 : 6 < cntAt (bytesOf s) p
  · refine (readerManyBad s g p 6 w hr (by omega) (by omega) t1 _).mono fun e w' h => .inr ⟨p, .inr (.inl ⟨by omega, t1, rfl⟩), h⟩
  have L : Lay g gb gc w.heap.size := ⟨La, Lb, hw⟩
  refine (readerMany s g p 6 w hr (by omega) (by omega) (by omega) 137 #[.pointer (some ⟨gb, 0, none⟩), .pointer (some ⟨gc, 0, none⟩)] (fun i W => p + 1 + 7 * i ≤ s.size ∧ InvT g gb gc w.heap.size s (p + 1) h0 h1 h2 h3 h4 v0 v1 v2 w i W) (s.size < p + 1 + 7 * cntAt (bytesOf s) p) enters_c4 ?_ (by omega) ?_).mono ?_
  · intro w' hr' hk
    refine ⟨by omega, none, 0, hr', (hk.block gb (by omega) (by omega) (by simp)).trans hb, (hk.block gc hw (by omega) (by simp)).trans hc, World.ownsRow_nil _ _ _ _, fun b hb' => ?_, hk.below.size⟩
    simp only [Mid] at hb'
    exact hk.block b hb'.2.2 (by omega) (by simp)
  · intro i hi W hI hbl
    obtain ⟨hsz, hI⟩ := hI
    by_cases t2 : p + 1 + 7 * i + 6 < s.size
    · refine (turnT L (by omega) t2 (by omega) hI).mono ?_
      rintro e w' ⟨rfl, h1, h2⟩
      exact .inl ⟨rfl, ⟨by omega, h1⟩, h2⟩
    · refine (turnTEnd L (by omega) (by omega) (by omega) (by omega) hI).mono fun e w' h => .inr ⟨h, by omega⟩
  · rintro e w' (⟨rfl, ⟨hsz, hI⟩, hb2⟩ | ⟨h, hbad⟩)
    · exact .inl ⟨rfl, ⟨by omega, by omega, by omega⟩, hI, hb2⟩
    · exact .inr ⟨s.size, .inr (.inr ⟨by omega, by omega, by omega, by omega⟩), h⟩
end Go.Proofs.Ytinlmkhlgclbfaa
