/-
  DecH: contract of config.read: what the reader panics with is caught.
-/
import Derived.Test.YtinlmkhlgclbfaaDecF
import Derived.Test.YtinlmkhlgclbfaaDecG
namespace Go.Proofs.Ytinlmkhlgclbfaa
open Go.RowKit
set_option maxRecDepth 100000
set_option maxHeartbeats 1000000

theorem configRead (s : ByteArray) (w : World) (hs : s.size ≤ 200) :
    Calls Try.prog 91 #[.string s] w fun e w' =>
      (decFault (bytesOf s) = -1 ∧ ∃ S, e = .returned (.tuple #[.agg #[.int .i64 (decCfg (bytesOf s)).sets, .int .i64 (decCfg (bytesOf s)).ways, .int .i64 (decCfg (bytesOf s)).doms, .int .i64 (decCfg (bytesOf s)).pad, .int .i64 (decCfg (bytesOf s)).quantum, .slice S.a0 (decCfg (bytesOf s)).slots.length S.n0, .slice S.a1 (decCfg (bytesOf s)).owners.length S.n1, .slice S.a2 (decCfg (bytesOf s)).chans.length S.n2, .slice S.a3 (decCfg (bytesOf s)).tasks.length S.n3], .int .i64 0, .int .i64 0]) ∧ TCfg.At (Rng w.heap.size w'.heap.size) w' (decCfg (bytesOf s)) S ∧ Below w.heap.size w w') ∨
      (∃ n : Nat, decFault (bytesOf s) = n ∧ e = .returned (.tuple #[.agg #[.int .i64 noCfg.sets, .int .i64 noCfg.ways, .int .i64 noCfg.doms, .int .i64 noCfg.pad, .int .i64 noCfg.quantum, .slice (⟨none, 0, none, 0, none, 0, none, 0⟩ : TCfgS).a0 noCfg.slots.length (⟨none, 0, none, 0, none, 0, none, 0⟩ : TCfgS).n0, .slice (⟨none, 0, none, 0, none, 0, none, 0⟩ : TCfgS).a1 noCfg.owners.length (⟨none, 0, none, 0, none, 0, none, 0⟩ : TCfgS).n1, .slice (⟨none, 0, none, 0, none, 0, none, 0⟩ : TCfgS).a2 noCfg.chans.length (⟨none, 0, none, 0, none, 0, none, 0⟩ : TCfgS).n2, .slice (⟨none, 0, none, 0, none, 0, none, 0⟩ : TCfgS).a3 noCfg.tasks.length (⟨none, 0, none, 0, none, 0, none, 0⟩ : TCfgS).n3], .int .i64 n, .int .i64 1]) ∧ Below w.heap.size w w') := by
  have hmf : ∀ (fn : Fn) (first cap : Array Value) (w : World), (Instr.makeFunc fn first cap).run Try.prog w = .ok (.func fn first cap) w := fun _ _ _ _ => rfl
  go_enter_defers Try.func91, Try.ntmps91
  go_wp2_with fail
  go_at_call 119
  refine (readerConfig s (w.heap.size + 1 + 1 + 1) _ hs ?_).mono ?_
  · unfold Rd; exact heapAt _ _ _ (by simp)
  rintro e w1 (⟨hd, S, rfl, hat, hb⟩ | ⟨n, hn, rfl, hb⟩)
  · have t0 : w1.heap[w.heap.size]? = some (.cells #[.int .i64 0, .int .i64 0, .int .i64 0, .int .i64 0, .int .i64 0, .slice none 0 0, .slice none 0 0, .slice none 0 0, .slice none 0 0] 63) := (hb.block _ (by omega)).trans (by (repeat (first | with_reducible exact heap_set2 (by with_reducible assumption) | with_reducible exact heap_set2 (heapAt _ _ _ rfl) | with_reducible exact heap_set1 (by with_reducible assumption) | with_reducible exact heap_set1 (heapAt _ _ _ rfl) | with_reducible assumption | (with_reducible refine heapAt _ _ _ ?_; first | rfl | (first | omega | (simp <;> omega))) | (with_reducible refine heap_drew ?_) | (with_reducible refine heap_drewN ?_) | (with_reducible refine (heap_alloc_old _ _ ?_).trans ?_; (first | omega | (simp <;> omega))) | (with_reducible refine heap_set_far ?_ ?_; rotate_left; (first | omega | (simp <;> omega))))))
    have t1 : w1.heap[w.heap.size + 1]? = some (.cells #[.int .i64 0] 3) := (hb.block _ (by omega)).trans (by (repeat (first | with_reducible exact heap_set2 (by with_reducible assumption) | with_reducible exact heap_set2 (heapAt _ _ _ rfl) | with_reducible exact heap_set1 (by with_reducible assumption) | with_reducible exact heap_set1 (heapAt _ _ _ rfl) | with_reducible assumption | (with_reducible refine heapAt _ _ _ ?_; first | rfl | (first | omega | (simp <;> omega))) | (with_reducible refine heap_drew ?_) | (with_reducible refine heap_drewN ?_) | (with_reducible refine (heap_alloc_old _ _ ?_).trans ?_; (first | omega | (simp <;> omega))) | (with_reducible refine heap_set_far ?_ ?_; rotate_left; (first | omega | (simp <;> omega))))))
    have t2 : w1.heap[w.heap.size + 1 + 1]? = some (.cells #[.int .i64 0] 25) := (hb.block _ (by omega)).trans (by (repeat (first | with_reducible exact heap_set2 (by with_reducible assumption) | with_reducible exact heap_set2 (heapAt _ _ _ rfl) | with_reducible exact heap_set1 (by with_reducible assumption) | with_reducible exact heap_set1 (heapAt _ _ _ rfl) | with_reducible assumption | (with_reducible refine heapAt _ _ _ ?_; first | rfl | (first | omega | (simp <;> omega))) | (with_reducible refine heap_drew ?_) | (with_reducible refine heap_drewN ?_) | (with_reducible refine (heap_alloc_old _ _ ?_).trans ?_; (first | omega | (simp <;> omega))) | (with_reducible refine heap_set_far ?_ ?_; rotate_left; (first | omega | (simp <;> omega))))))
    obtain ⟨c0, f0, z0⟩ := blk t0
    obtain ⟨c1, f1, z1⟩ := blk t1
    obtain ⟨c2, f2, z2⟩ := blk t2
    have hd := Lib.hid hd
    have zz := hb.size
    simp at zz
    go_wp2_with fail
    refine leaves_cons (f := 118) (args := #[.pointer (some ⟨w.heap.size, 0, none⟩), .pointer (some ⟨w.heap.size + 1, 0, none⟩), .pointer (some ⟨w.heap.size + 1 + 1, 0, none⟩)]) (by simp) (by simp [go_sem]) ?_
    refine (readCatchIdle _ _ _ _).mono ?_
    rintro e u' w'' ⟨rfl, rfl, rfl⟩
    refine ⟨.tuple #[.agg #[.int .i64 (decCfg (bytesOf s)).sets, .int .i64 (decCfg (bytesOf s)).ways, .int .i64 (decCfg (bytesOf s)).doms, .int .i64 (decCfg (bytesOf s)).pad, .int .i64 (decCfg (bytesOf s)).quantum, .slice S.a0 (decCfg (bytesOf s)).slots.length S.n0, .slice S.a1 (decCfg (bytesOf s)).owners.length S.n1, .slice S.a2 (decCfg (bytesOf s)).chans.length S.n2, .slice S.a3 (decCfg (bytesOf s)).tasks.length S.n3], .int .i64 0, .int .i64 0], ?_, .inl ⟨hd.out, S, rfl, ?_, ?_⟩⟩
    · simp [results, Try.results91, go_sem, c0, c1, c2]
    · refine (hat.keepI (by repeat (first | with_reducible exact KeepI.refl _ _ | with_reducible assumption | (with_reducible refine KeepI.drew ?_) | (with_reducible refine KeepI.drewN ?_ _) | ((with_reducible refine KeepI.alloc ?_ ?_ _); rotate_left; (intro kkI hkI; simp only [Low, Rng, LoR] at hkI; first | omega | (simp <;> omega) | (rcases hkI with hkI | hkI <;> first | omega | (simp <;> omega)))) | ((with_reducible refine KeepI.setCell ?_ ?_ _); rotate_left; (intro hkI; simp only [Low, Rng, LoR] at hkI; first | omega | (simp at hkI <;> omega))) | (refine KeepI.call ?_ (by with_reducible assumption) (by (intro kkI hkI; simp only [Low, Rng, LoR] at hkI; first | omega | (simp <;> omega) | (rcases hkI with hkI | hkI <;> first | omega | (simp <;> omega)))))))).mono ?_
      intro b hb
      simp only [Rng] at hb ⊢
      simp at hb ⊢
      omega
    · (repeat (first | with_reducible exact Below.refl _ _ | with_reducible assumption | (with_reducible refine Below.drew ?_) | (with_reducible refine Below.alloc ?_ ?_ _; rotate_left; (first | omega | (simp <;> omega))) | (with_reducible refine Below.setCell ?_ ?_ _; rotate_left; (first | omega | (simp <;> omega))) | (with_reducible refine below_drewN ?_ _) | (refine Below.trans ?_ (Below.mono (by with_reducible assumption) (by first | omega | (simp <;> omega))))))
  · have t0 : w1.heap[w.heap.size]? = some (.cells #[.int .i64 0, .int .i64 0, .int .i64 0, .int .i64 0, .int .i64 0, .slice none 0 0, .slice none 0 0, .slice none 0 0, .slice none 0 0] 63) := (hb.block _ (by omega)).trans (by (repeat (first | with_reducible exact heap_set2 (by with_reducible assumption) | with_reducible exact heap_set2 (heapAt _ _ _ rfl) | with_reducible exact heap_set1 (by with_reducible assumption) | with_reducible exact heap_set1 (heapAt _ _ _ rfl) | with_reducible assumption | (with_reducible refine heapAt _ _ _ ?_; first | rfl | (first | omega | (simp <;> omega))) | (with_reducible refine heap_drew ?_) | (with_reducible refine heap_drewN ?_) | (with_reducible refine (heap_alloc_old _ _ ?_).trans ?_; (first | omega | (simp <;> omega))) | (with_reducible refine heap_set_far ?_ ?_; rotate_left; (first | omega | (simp <;> omega))))))
    have t1 : w1.heap[w.heap.size + 1]? = some (.cells #[.int .i64 0] 3) := (hb.block _ (by omega)).trans (by (repeat (first | with_reducible exact heap_set2 (by with_reducible assumption) | with_reducible exact heap_set2 (heapAt _ _ _ rfl) | with_reducible exact heap_set1 (by with_reducible assumption) | with_reducible exact heap_set1 (heapAt _ _ _ rfl) | with_reducible assumption | (with_reducible refine heapAt _ _ _ ?_; first | rfl | (first | omega | (simp <;> omega))) | (with_reducible refine heap_drew ?_) | (with_reducible refine heap_drewN ?_) | (with_reducible refine (heap_alloc_old _ _ ?_).trans ?_; (first | omega | (simp <;> omega))) | (with_reducible refine heap_set_far ?_ ?_; rotate_left; (first | omega | (simp <;> omega))))))
    have t2 : w1.heap[w.heap.size + 1 + 1]? = some (.cells #[.int .i64 0] 25) := (hb.block _ (by omega)).trans (by (repeat (first | with_reducible exact heap_set2 (by with_reducible assumption) | with_reducible exact heap_set2 (heapAt _ _ _ rfl) | with_reducible exact heap_set1 (by with_reducible assumption) | with_reducible exact heap_set1 (heapAt _ _ _ rfl) | with_reducible assumption | (with_reducible refine heapAt _ _ _ ?_; first | rfl | (first | omega | (simp <;> omega))) | (with_reducible refine heap_drew ?_) | (with_reducible refine heap_drewN ?_) | (with_reducible refine (heap_alloc_old _ _ ?_).trans ?_; (first | omega | (simp <;> omega))) | (with_reducible refine heap_set_far ?_ ?_; rotate_left; (first | omega | (simp <;> omega))))))
    have zz := hb.size
    simp at zz
    change Leaves _ _ _ _ _ _ _
    refine leaves_cons (f := 118) (args := #[.pointer (some ⟨w.heap.size, 0, none⟩), .pointer (some ⟨w.heap.size + 1, 0, none⟩), .pointer (some ⟨w.heap.size + 1 + 1, 0, none⟩)]) (by simp) (by simp [go_sem]) ?_
    refine (readCatchBad w.heap.size (w.heap.size + 1) (w.heap.size + 1 + 1) n w1 (by omega) (by omega) t0 t1 t2).mono ?_
    rintro e u' w2 ⟨rfl, rfl, hb2, k0, k1, k2⟩
    obtain ⟨c0, f0, z0⟩ := blk k0
    obtain ⟨c1, f1, z1⟩ := blk k1
    obtain ⟨c2, f2, z2⟩ := blk k2
    refine ⟨.tuple #[.agg #[.int .i64 noCfg.sets, .int .i64 noCfg.ways, .int .i64 noCfg.doms, .int .i64 noCfg.pad, .int .i64 noCfg.quantum, .slice (⟨none, 0, none, 0, none, 0, none, 0⟩ : TCfgS).a0 noCfg.slots.length (⟨none, 0, none, 0, none, 0, none, 0⟩ : TCfgS).n0, .slice (⟨none, 0, none, 0, none, 0, none, 0⟩ : TCfgS).a1 noCfg.owners.length (⟨none, 0, none, 0, none, 0, none, 0⟩ : TCfgS).n1, .slice (⟨none, 0, none, 0, none, 0, none, 0⟩ : TCfgS).a2 noCfg.chans.length (⟨none, 0, none, 0, none, 0, none, 0⟩ : TCfgS).n2, .slice (⟨none, 0, none, 0, none, 0, none, 0⟩ : TCfgS).a3 noCfg.tasks.length (⟨none, 0, none, 0, none, 0, none, 0⟩ : TCfgS).n3], .int .i64 n, .int .i64 1], ?_, .inr ⟨n, hn, rfl, ?_⟩⟩
    · simp [results, Try.results91, go_sem, c0, c1, c2, noCfg]
    · (repeat (first | with_reducible exact Below.refl _ _ | with_reducible assumption | (with_reducible refine Below.drew ?_) | (with_reducible refine Below.alloc ?_ ?_ _; rotate_left; (first | omega | (simp <;> omega))) | (with_reducible refine Below.setCell ?_ ?_ _; rotate_left; (first | omega | (simp <;> omega))) | (with_reducible refine below_drewN ?_ _) | (refine Below.trans ?_ (Below.mono (by with_reducible assumption) (by first | omega | (simp <;> omega))))))
end Go.Proofs.Ytinlmkhlgclbfaa
