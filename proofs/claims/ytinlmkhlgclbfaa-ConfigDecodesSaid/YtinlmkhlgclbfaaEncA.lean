/-
  EncA: contracts of the writer of bytes (one, two) and of config's Encode.
-/
import Derived.Test.YtinlmkhlgclbfaaConfB
import Derived.Test.YtinlmkhlgclbfaaArrA
import Derived.Test.YtinlmkhlgclbfaaEncP
import Derived.Test.YtinlmkhlgclbfaaMemR
import Derived.Laws.BytesString
import Derived.Outline
namespace Go.Proofs.Ytinlmkhlgclbfaa
open Go.RowKit
set_option maxRecDepth 100000
set_option maxHeartbeats 1000000

theorem tyU8 : TyS Try.prog 127 5 (.int .u8 0) 1 1 := ⟨Try.underlying127, info_of (by kernel_rfl), rfl, by decide⟩

/-- the cells of a row of bytes -/
def u8s (bs : List Int) : List Value := bs.flatMap fun n => [Value.int .u8 n]
theorem u8s_append (a b : List Int) : u8s (a ++ b) = u8s a ++ u8s b := by unfold u8s; rw [List.flatMap_append]
theorem u8s_one (n : Int) : u8s [n] = [.int .u8 n] := rfl

/-- a writer lies in block g, its bytes in a row of its own behind it -/
structure Wr (g base : Nat) (w : World) (bs : List Int) (A : Option Addr) (n c : Nat) : Prop where
  blk : w.heap[g]? = some (.cells #[.slice A n c] 129)
  own : w.ownsRow base 5 1 (.slice A n c) n (u8s bs)
  low : g < base
/-- what a call of a writer leaves: all but the writer's block and its row -/
structure WrKeep (g : Nat) (v : Option Nat) (w w' : World) : Prop where
  below : Below g w w'
  block : ∀ b, b < w.heap.size → b ≠ g → v ≠ some b → w'.heap[b]? = w.heap[b]?
theorem WrKeep.size {g : Nat} {v : Option Nat} {w w' : World} (h : WrKeep g v w w') : w.heap.size ≤ w'.heap.size := h.below.size
theorem WrKeep.refl (g : Nat) (v : Option Nat) (w : World) : WrKeep g v w w := ⟨Below.refl _ _, fun _ _ _ _ => rfl⟩
/-- where the row lies: where it lay, or in a block that is new -/
def RowAt (v v' : Option Nat) (s : Nat) : Prop := v' = v ∨ ∃ k, v' = some k ∧ s ≤ k
theorem WrKeep.trans {g : Nat} {v v' : Option Nat} {w w' w'' : World} (h : WrKeep g v w w') (hv : RowAt v v' w.heap.size) (h' : WrKeep g v' w' w'') : WrKeep g v w w'' :=
  ⟨h.below.trans h'.below, fun b hb hg hne => (h'.block b (Nat.lt_of_lt_of_le hb h.size) hg (by
    rcases hv with e | ⟨k, e, hk⟩
    · rw [e]; exact hne
    · rw [e]; intro e'; injection e' with e'; omega)).trans (h.block b hb hg hne)⟩
theorem RowAt.trans {v v' v'' : Option Nat} {s s' : Nat} (h : RowAt v v' s) (h' : RowAt v' v'' s') (hs : s ≤ s') : RowAt v v'' s := by
  rcases h' with e | ⟨k, e, hk⟩
  · rw [e]; exact h
  · exact .inr ⟨k, e, by omega⟩
theorem WrKeep.pre {g : Nat} {v : Option Nat} {w w' : World} {o : Obj} (h : WrKeep g v (w.alloc o) w') (hg : g ≤ w.heap.size) : WrKeep g v w w' :=
  ⟨(Below.alloc (Below.refl _ _) hg _).trans h.below, fun b hb hg hv => (h.block b (by simp; omega) hg hv).trans (heap_alloc_old _ _ hb)⟩
theorem Wr.alloc {g base : Nat} {w : World} {bs : List Int} {A : Option Addr} {n c : Nat} (h : Wr g base w bs A n c) (o : Obj) : Wr g base (w.alloc o) bs A n c :=
  ⟨(heap_alloc_old _ _ (Array.getElem?_eq_some_iff.1 h.blk).1).trans h.blk, h.own.alloc _, h.low⟩
def RetW (g base : Nat) (bs : List Int) (v : Option Nat) (n : Nat) (w : World) (en : Ending) (w' : World) : Prop :=
  ∃ A c, en = .returned (.tuple #[]) ∧ Wr g base w' bs A n c ∧ RowAt v (Value.slice A n c).ownBlock w.heap.size ∧ WrKeep g v w w'

/-- the bytes of ints -/
def lowB (xs : List Int) : List Int := xs.map (· % 256)

theorem writerOne (xs : List Int) (Ax : Option Addr) (cx : Nat) (I : Nat → Prop) (g base : Nat) (bs : List Int) (A : Option Addr) (n c : Nat) (w : World) (hw : Wr g base w bs A n c) (hb : base ≤ w.heap.size) (hn : n + xs.length ≤ 1000000)
    (hx : Sl cInt I w Ax cx xs) (hI : ∀ b, I b → b < w.heap.size ∧ b ≠ g ∧ (Value.slice A n c).ownBlock ≠ some b) :
    Calls Try.prog 81 #[.pointer (some ⟨g, 0, none⟩), .slice Ax xs.length cx] w (RetW g base (bs ++ lowB xs) (Value.slice A n c).ownBlock (n + xs.length) w) := by
  have hx63 := Nat.le_trans hx.cap hx.max
  unfold maxLen at hx63
  have HX := Lib.hid (fun W (h : WrKeep g (Value.slice A n c).ownBlock w W) => hx.keep fun b hb => h.block b (hI b hb).1 (hI b hb).2.1 (hI b hb).2.2)
  clear hx hI
  have hgb := hw.low
  go_enter Try.func81, Try.ntmps81
  go_wp2
  go_loopw [8] (fun iv wr => ∃ (i : Nat) (A1 : Option Addr) (c1 : Nat), i ≤ xs.length ∧ iv = .int .i64 i ∧ Wr g base wr (bs ++ lowB (xs.take i)) A1 (n + i) c1 ∧ RowAt (Value.slice A n c).ownBlock (Value.slice A1 (n + i) c1).ownBlock w.heap.size ∧ WrKeep g (Value.slice A n c).ownBlock w wr) (fun iv _ => xs.length - (intOf iv).toNat)
  case atStart => exact ⟨0, A, c, Nat.zero_le _, rfl, by simpa [lowB] using hw, .inl rfl, WrKeep.refl _ _ _⟩
  case round =>
    obtain ⟨i, A1, c1, hi, rfl, hW, hat, hk⟩ := hrel
    obtain ⟨hblk, hown, _⟩ := hW
    obtain ⟨cg, fg, zg⟩ := blk hblk
    have hsz := hk.size
    by_cases hlt : i < xs.length
    · obtain ⟨b, o, rfl, hI2, hc0⟩ := (HX.out _ hk).at_int hlt
      have hbl : b < wr.heap.size := World.block_lt_of_cell? wr _ hc0
      have hi0 : (0 : Int) ≤ i := by omega
      have hi1 : (i : Int) < xs.length := by omega
      have hne : (Value.slice A1 (n + i) c1).ownBlock ≠ some g := fun e => by have := (own_lt hown _ e).1; omega
      have E := Lib.hid (show lowB (xs.take (i + 1)) = lowB (xs.take i) ++ [nth xs i % 256] by unfold lowB; rw [tk_snoc hlt]; simp)
      go_wp2_with ((at_builtin; refine wpList_app ?_ (.tmp 16) (.tmp 19) _ ?_ (base) tyU8 (.slice A1 (n + i) c1) (n + i) (u8s (bs ++ lowB (xs.take i))) ?_ ?_ (some ⟨wr.heap.size, 0, none⟩) 1 1 [.int .u8 (IntKind.u8.wrap (nth xs i))] ?_ ?_ (one_one rfl) ?_ ?_ ?_ ?_; rfl; rfl; rfl; exact (hown.alloc _); rfl; exact (src_new (by simp) rfl); (first | (unfold maxLen; omega) | (simp only [maxLen]; omega)); (omega); (first | exact Nat.le_refl _ | exact Below.size (by assumption) | omega | (simp <;> omega)); intro A3 c3 w3 hown3 hg_w3 hat_w3; refine have_then (P := w3.heap[g]? = some (.cells #[.slice A1 (n + i) c1] 129)) ?_ (fun x_w3 => ?_); (focus (refine (hg_w3.block _ ?_ ?_).trans ?_; (first | omega | (simp <;> omega)); (first | exact Ne.symm (by assumption) | omega); (repeat (first | with_reducible exact heap_set2 (by with_reducible assumption) | with_reducible exact heap_set2 (heapAt _ _ _ rfl) | with_reducible exact heap_set1 (by with_reducible assumption) | with_reducible exact heap_set1 (heapAt _ _ _ rfl) | with_reducible assumption | (with_reducible refine heapAt _ _ _ ?_; first | rfl | (first | omega | (simp <;> omega))) | (with_reducible refine heap_drew ?_) | (with_reducible refine heap_drewN ?_) | (with_reducible refine (heap_alloc_old _ _ ?_).trans ?_; (first | omega | (simp <;> omega))) | (with_reducible refine heap_set_far ?_ ?_; rotate_left; (first | omega | (simp <;> omega))))); done)); obtain ⟨cx_w3, fx_w3, zx_w3⟩ := blk x_w3))
      go_roundw
      case rel =>
        have z3 := hg_w3.size
        simp at z3
        have hne3 : (Value.slice A3 (n + i + 1) c3).ownBlock ≠ some g := fun e => by have := (own_lt hown3 _ e).1; omega
        refine ⟨i + 1, A3, c3, by omega, by go_num, ⟨?_, ?_, hgb⟩, ?_, ?_⟩
        · have := heap_set_same (i := 0) (u := .slice A3 (n + i + 1) c3) x_w3
          exact (show _ = some (Obj.cells #[.slice A3 (n + i + 1) c3] 129) by simpa using this)
        · rw [E.out, ← List.append_assoc, u8s_append]
          refine own_set_ne ?_ hne3 _
          have e : u8s [nth xs i % 256] = [.int .u8 (IntKind.u8.wrap (nth xs i))] := by rw [u8s_one, IntKind.wrap_u8]
          rw [e]
          exact hown3
        · refine hat.trans ?_ hsz
          rcases hat_w3 with e | e
          · exact .inl e
          · exact .inr ⟨_, e, by simp⟩
        · refine hk.trans hat ⟨?_, fun b' hb' hg' hv' => ?_⟩
          · exact Below.setCell (Below.grown (Below.alloc (Below.refl g wr) (show g ≤ wr.heap.size by omega) _) hg_w3 (by simp; omega) (fun k hk => by have := (own_lt hown _ hk).1; omega)) (Nat.le_refl g) _
          · refine heap_set_far ((hg_w3.block b' ?_ (Ne.symm hv')).trans (heap_alloc_old _ _ hb')) hg'
            simp; omega
      case measure => simp [intOf]; omega
    · obtain rfl : i = xs.length := by omega
      rw [List.take_length] at hown
      go_wp2
      refine bodyPost_ret (v := .tuple #[]) (by simp [results, Try.results81, go_sem, *]) rfl ?_
      exact ⟨A1, c1, rfl, ⟨hblk, hown, hgb⟩, hat, hk⟩

theorem shr8 {n : Int} (h0 : 0 ≤ n) (h1 : n ≤ 65535) : (n / 256) % 256 = n / 256 := by omega

theorem writerTwo (xs : List Int) (Ax : Option Addr) (cx : Nat) (I : Nat → Prop) (g base : Nat) (bs : List Int) (A : Option Addr) (n c : Nat) (w : World) (hw : Wr g base w bs A n c) (hb : base ≤ w.heap.size) (hn : n + 2 * xs.length ≤ 1000000)
    (hx : Sl cInt I w Ax cx xs) (hI : ∀ b, I b → b < w.heap.size ∧ b ≠ g ∧ (Value.slice A n c).ownBlock ≠ some b) (hr : ∀ i, i < xs.length → 0 ≤ nth xs i ∧ nth xs i ≤ 65535) :
    Calls Try.prog 82 #[.pointer (some ⟨g, 0, none⟩), .slice Ax xs.length cx] w (RetW g base (bs ++ xs.flatMap fun n => [n / 256, n % 256]) (Value.slice A n c).ownBlock (n + 2 * xs.length) w) := by
  have hx63 := Nat.le_trans hx.cap hx.max
  unfold maxLen at hx63
  have HX := Lib.hid (fun W (h : WrKeep g (Value.slice A n c).ownBlock w W) => hx.keep fun b hb => h.block b (hI b hb).1 (hI b hb).2.1 (hI b hb).2.2)
  have HR := Lib.hid hr
  clear hx hI hr
  have hgb := hw.low
  go_enter Try.func82, Try.ntmps82
  go_wp2
  go_loopw [8] (fun iv wr => ∃ (i : Nat) (A1 : Option Addr) (c1 : Nat), i ≤ xs.length ∧ iv = .int .i64 i ∧ Wr g base wr (bs ++ (xs.take i).flatMap fun n => [n / 256, n % 256]) A1 (n + 2 * i) c1 ∧ RowAt (Value.slice A n c).ownBlock (Value.slice A1 (n + 2 * i) c1).ownBlock w.heap.size ∧ WrKeep g (Value.slice A n c).ownBlock w wr) (fun iv _ => xs.length - (intOf iv).toNat)
  case atStart => exact ⟨0, A, c, Nat.zero_le _, rfl, by simpa using hw, .inl rfl, WrKeep.refl _ _ _⟩
  case round =>
    obtain ⟨i, A1, c1, hi, rfl, hW, hat, hk⟩ := hrel
    have hsz := hk.size
    have hgw : g < wr.heap.size := (blk hW.blk).2.2
    by_cases hlt : i < xs.length
    · obtain ⟨b, o, rfl, hI2, hc0⟩ := (HX.out _ hk).at_int hlt
      have hbl : b < wr.heap.size := World.block_lt_of_cell? wr _ hc0
      have hi0 : (0 : Int) ≤ i := by omega
      have hi1 : (i : Int) < xs.length := by omega
      obtain ⟨r0, r1⟩ := HR.out i hlt
      have E := Lib.hid (show (xs.take (i + 1)).flatMap (fun n => [n / 256, n % 256]) = (xs.take i).flatMap (fun n => [n / 256, n % 256]) ++ [nth xs i / 256, nth xs i % 256] by rw [tk_snoc hlt]; simp)
      have hwn : ∀ b, b = wr.heap.size → b < (wr.alloc (.cells (intCells [nth xs i / 256, nth xs i]) 3)).heap.size ∧ b ≠ g ∧ (Value.slice A1 (n + 2 * i) c1).ownBlock ≠ some b := by
        rintro b rfl
        refine ⟨by simp, ?_, fun e => ?_⟩
        · have := (blk hW.blk).2.2; omega
        · have := (own_lt hW.own _ e).2; omega
      have H := Lib.hid (writerOne [nth xs i / 256, nth xs i] (some ⟨wr.heap.size, 0, none⟩) 2 (fun b => b = wr.heap.size) g base _ A1 (n + 2 * i) c1 _ (hW.alloc (.cells (intCells [nth xs i / 256, nth xs i]) 3)) (by simp; omega) (by simp; omega)
        (sl_ints (heapAt _ _ _ rfl) rfl (by unfold maxLen; simp)) hwn)
      clear hwn
      go_wp2_with fail
      go_at_call 81
      refine H.out.mono ?_
      rintro e w3 ⟨A3, c3, rfl, hW3, hat3, hk3⟩
      go_wp2_with fail
      go_roundw
      case rel =>
        refine ⟨i + 1, A3, c3, by omega, by go_num, ?_, hat.trans hat3 (by simp; omega), hk.trans hat (hk3.pre (by omega))⟩
        rw [E.out, ← List.append_assoc]
        have e : lowB [nth xs i / 256, nth xs i] = [nth xs i / 256, nth xs i % 256] := by simp [lowB]; omega
        rw [e] at hW3
        exact hW3
      case measure => simp [intOf]; omega
    · obtain rfl : i = xs.length := by omega
      obtain ⟨hblk, hown, _⟩ := hW
      rw [List.take_length] at hown
      go_wp2
      refine bodyPost_ret (v := .tuple #[]) (by simp [results, Try.results82, go_sem, *]) rfl ?_
      exact ⟨A1, c1, rfl, ⟨hblk, hown, hgb⟩, hat, hk⟩

/-- a call with ints that were just laid -/
theorem writerOneLit (xs : List Int) (k : Nat) (hkx : k = xs.length) (gs : Nat) (g base : Nat) (bs : List Int) (A : Option Addr) (n c : Nat) (w : World) (hgs : gs = w.heap.size) (hw : Wr g base w bs A n c) (hb : base ≤ w.heap.size) (hn : n + k ≤ 100000) :
    Calls Try.prog 81 #[.pointer (some ⟨g, 0, none⟩), .slice (some ⟨gs, 0, none⟩) k k] (w.alloc (.cells (intCells xs) 3)) (RetW g base (bs ++ lowB xs) (Value.slice A n c).ownBlock (n + k) w) := by
  subst hkx hgs
  have hg := (blk hw.blk).2.2
  refine (writerOne xs (some ⟨w.heap.size, 0, none⟩) xs.length (fun b => b = w.heap.size) g base bs A n c _ (hw.alloc _) (by simp; omega) (by omega) (sl_ints (heapAt _ _ _ rfl) rfl (by unfold maxLen; omega)) ?_).mono ?_
  · rintro b rfl
    exact ⟨by simp, by omega, fun e => by have := (own_lt hw.own _ e).2; omega⟩
  · rintro e w' ⟨A', c', he, hW, hat, hk⟩
    refine ⟨A', c', he, hW, ?_, hk.pre (by omega)⟩
    rcases hat with e | ⟨k, e, h⟩
    · exact .inl e
    · exact .inr ⟨k, e, by simp at h; omega⟩
theorem writerTwoLit (xs : List Int) (k : Nat) (hkx : k = xs.length) (gs : Nat) (g base : Nat) (bs : List Int) (A : Option Addr) (n c : Nat) (w : World) (hgs : gs = w.heap.size) (hw : Wr g base w bs A n c) (hb : base ≤ w.heap.size) (hn : n + 2 * k ≤ 100000) (hr : ∀ x ∈ xs, 0 ≤ x ∧ x ≤ 65535) :
    Calls Try.prog 82 #[.pointer (some ⟨g, 0, none⟩), .slice (some ⟨gs, 0, none⟩) k k] (w.alloc (.cells (intCells xs) 3)) (RetW g base (bs ++ xs.flatMap fun n => [n / 256, n % 256]) (Value.slice A n c).ownBlock (n + 2 * k) w) := by
  subst hkx hgs
  have hg := (blk hw.blk).2.2
  refine (writerTwo xs (some ⟨w.heap.size, 0, none⟩) xs.length (fun b => b = w.heap.size) g base bs A n c _ (hw.alloc _) (by simp; omega) (by omega) (sl_ints (heapAt _ _ _ rfl) rfl (by unfold maxLen; omega)) ?_ (fun i hi => hr _ (nth_mem hi))).mono ?_
  · rintro b rfl
    exact ⟨by simp, by omega, fun e => by have := (own_lt hw.own _ e).2; omega⟩
  · rintro e w' ⟨A', c', he, hW, hat, hk⟩
    refine ⟨A', c', he, hW, ?_, hk.pre (by omega)⟩
    rcases hat with e | ⟨k, e, h⟩
    · exact .inl e
    · exact .inr ⟨k, e, by simp at h; omega⟩

/-- ints as a string -/
def strOf (bs : List Int) : ByteArray := bs.foldl (fun r n => r.push (UInt8.ofNat n.toNat)) ByteArray.empty
def encRes (c : TCfg) : List Int := if checkConfig c = 0 then encB c else []
def RetStrE (s : List Int) (e : Int) (w : World) (en : Ending) (w' : World) : Prop := en = .returned (.tuple #[.string (strOf s), .int .i64 e]) ∧ Below w.heap.size w w'

theorem lowB_small {xs : List Int} (h : ∀ x ∈ xs, 0 ≤ x ∧ x ≤ 255) : lowB xs = xs := by
  unfold lowB
  conv => rhs; rw [← List.map_id xs]
  exact List.map_congr_left fun x hx => by have := h x hx; simp; omega
end Go.Proofs.Ytinlmkhlgclbfaa
