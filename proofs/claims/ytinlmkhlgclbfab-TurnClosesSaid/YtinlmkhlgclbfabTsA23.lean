/- RdOk RdDueR KeepF RegInvG -/
import Derived.Test.YtinlmkhlgclbfabTsA04
import Derived.Test.YtinlmkhlgclbfabTsA18
import Derived.Test.YtinlmkhlgclbfabTsA21
import Derived.Test.YtinlmkhlgclbfabTsA22
import Derived.StillTail
import Derived.Deep.QuietTactic
import Derived.RangeFuncCalls
import Derived.TacticsIn
section
namespace Go.Proofs.Ytinlmkhlgclbfab
open Go.RowKit

theorem checkBoth_ok {c : TCfg} {dom : Int} {d : TDom} (h : checkBoth c dom d = 0) : CfgOk c ∧ DomOk c dom d := by
  unfold checkBoth thenE at h
  split at h
  · exact ⟨checkConfig_ok (by assumption), domErr_zero.1 h⟩
  · contradiction
end Go.Proofs.Ytinlmkhlgclbfab
end

section
namespace Go.Proofs.Ytinlmkhlgclbfab
open Go.RowKit
set_option maxRecDepth 100000
set_option maxHeartbeats 4000000

theorem relAt_rng {c : TCfg} {dom : Int} {d : TDom} (hc : CfgOk c) (hd : DomOkW c dom d) {k : Nat} (hk : k < c.tasks.length) : 0 ≤ relAt c k d ∧ relAt c k d ≤ 5000 * 100000 := by
  have h1 := (hc.task k hk).2.1
  have h2 := hd.rel k (by rw [hd.lrel]; exact hk)
  unfold relAt
  exact ⟨Int.mul_nonneg (by omega) h2.1, Int.mul_le_mul h1.2 h2.2 h2.1 (by omega)⟩
theorem IsDue.due {c : TCfg} {dom : Int} {d : TDom} (hc : CfgOk c) (hd : DomOkW c dom d) {v : Int} {p : Nat → Prop} (hp : ∀ t, p t ↔ t < c.tasks.length) (h : IsDue c dom d p v) : v = dueOf c dom d := by
  have h2 := dueUp_isDue (c := c) (dom := dom) (d := d) c.tasks.length (fun t ht => (relAt_rng hc hd ht).1)
  have : p = fun t => t < c.tasks.length := by funext t; exact propext (hp t)
  subst this
  exact h.unique h2

theorem refDueOf (c : TCfg) (S : TCfgS) (dom : Int) (d : TDom) (T : TDomS) (hc : CfgOk c) (hk : DomOkW c dom d) (B : Nat) (w : World) (hB : B ≤ w.heap.size) (hs : TCfg.At (Low B) w c S) (hd : TDom.At (Low B) w d T) :
    Calls Try.prog 75 #[.agg #[.int .i64 c.sets, .int .i64 c.ways, .int .i64 c.doms, .int .i64 c.pad, .int .i64 c.quantum, .slice S.a0 c.slots.length S.n0, .slice S.a1 c.owners.length S.n1, .slice S.a2 c.chans.length S.n2, .slice S.a3 c.tasks.length S.n3], .int .i64 dom, .agg #[.slice T.a0 d.jobs.length T.n0, .slice T.a1 d.released.length T.n1, .int .i64 d.next, .slice T.a2 d.ins.length T.n2, .slice T.a3 d.taken.length T.n3, .slice T.a4 d.outs.length T.n4, .slice T.a5 d.events.length T.n5]] w fun e w' => e = .returned (.int .i64 (dueOf c dom d)) ∧ Below w.heap.size w w' := by
  have h6 := hc.ntasks
  have hlr := Lib.hid hk.lrel
  have HR := Lib.hid (fun k (h : k < c.tasks.length) => relAt_rng hc hk h)
  have HE := Lib.hid (fun v (p : Nat → Prop) (hp : ∀ t, p t ↔ t < c.tasks.length) h => IsDue.due (v := v) hc hk hp h)
  clear hc hk
  go_enter Try.func75, Try.ntmps75
  have hwl : IntKind.i64.wrap ((c.tasks.length : Int) - 1) = (c.tasks.length : Int) - 1 := IntWalk.i64_in _ (by omega)
  go_wp2_with fail
  go_loopw [7, 8] (fun dv iv wr => ∃ (i v : Int), -1 ≤ i ∧ i < c.tasks.length ∧ dv = .int .i64 v ∧ iv = .int .i64 i ∧ IsDue c dom d (fun t => i < t ∧ t < c.tasks.length) v ∧ Hid (wr.heap[w.heap.size]? = some (.cells #[.int .i64 c.sets, .int .i64 c.ways, .int .i64 c.doms, .int .i64 c.pad, .int .i64 c.quantum, .slice S.a0 c.slots.length S.n0, .slice S.a1 c.owners.length S.n1, .slice S.a2 c.chans.length S.n2, .slice S.a3 c.tasks.length S.n3] 27) ∧ wr.heap[w.heap.size + 1]? = some (.cells #[.slice T.a0 d.jobs.length T.n0, .slice T.a1 d.released.length T.n1, .int .i64 d.next, .slice T.a2 d.ins.length T.n2, .slice T.a3 d.taken.length T.n3, .slice T.a4 d.outs.length T.n4, .slice T.a5 d.events.length T.n5] 45) ∧ Below w.heap.size w wr)) (fun dv iv wr => (intOf iv + 1).toNat)
  case atStart => exact ⟨_, -1, by omega, by omega, rfl, rfl, IsDue.start _ _ _ _ fun t h => by omega, Lib.hid ⟨by exact byH, by exact byH, byB⟩⟩
  case round =>
    obtain ⟨i, v, hi1, hi, rfl, rfl, hdu, hH⟩ := hrel
    obtain ⟨hbx, hby, hbr⟩ := hH.out
    by_cases hlt : 0 ≤ i
    · obtain ⟨k, rfl⟩ := Int.eq_ofNat_of_zero_le hlt
      have hkl : k < c.tasks.length := by omega
      obtain ⟨b1, o1, e1, hI1, k0, k1, k2, k3⟩ := (hs.next hB hbr).s3.at_task hkl
      obtain ⟨b2, o2, e2, hI2, m0⟩ := (hd.next hB hbr).s1.at_int (k := k) (by rw [hlr.out]; exact hkl)
      have hbx0 := hbx
      have hby0 := hby
      replace hbx0 := Lib.hid hbx0
      replace hby0 := Lib.hid hby0
      rw [e1] at hbx
      rw [e2] at hby
      clear e1 e2
      obtain ⟨cx, fx, zx⟩ := blk hbx
      obtain ⟨cy, fy, zy⟩ := blk hby
      have hkr : (k : Int) < d.released.length := by rw [hlr.out]; exact_mod_cast hkl
      have hwk : IntKind.i64.wrap ((k : Int) - 1) = (k : Int) - 1 := IntWalk.i64_in _ (by omega)
      have hR := HR.out k hkl
      have hmul : IntKind.i64.wrap ((nth c.tasks k).period * nth d.released k) = relAt c k d := IntWalk.i64_in (relAt c k d) (by omega)
      have hq : ∀ t : Nat, ((k : Int) - 1 < t ∧ t < c.tasks.length) ↔ ((k : Int) < t ∧ t < c.tasks.length) ∨ t = k := fun t => by omega
      have hrd : (nth c.tasks k).period * nth d.released k = relAt c k d := rfl
      have hsk := Lib.hid (fun h => hdu.skip hq h)
      have htk := Lib.hid (fun h h2 => hdu.take hq h hR.1 h2)
      have hst := Lib.hid (fun h h2 => hdu.stay hq h h2)
      generalize relAt c k d = R at *
      by_cases hdm : (nth c.tasks k).dom = dom
      · by_cases hv0 : v < 0
        · go_wp2_with fail
          go_quiet (fail)
          go_wp2_with fail
          go_roundw
          case rel => exact ⟨(k : Int) - 1, R, by omega, by omega, rfl, rfl, htk.out hdm (.inl hv0), Lib.hid ⟨hbx0.out, hby0.out, below_drewN hbr _⟩⟩
          case measure => simp [intOf] <;> omega
        · by_cases hv1 : R ≤ v
          · go_wp2_with fail
            go_quiet (fail)
            go_wp2_with fail
            go_roundw
            case rel => exact ⟨(k : Int) - 1, R, by omega, by omega, rfl, rfl, htk.out hdm (.inr hv1), Lib.hid ⟨hbx0.out, hby0.out, below_drewN hbr _⟩⟩
            case measure => simp [intOf] <;> omega
          · go_wp2_with fail
            go_quiet (fail)
            go_wp2_with fail
            go_roundw
            case rel => exact ⟨(k : Int) - 1, v, by omega, by omega, rfl, rfl, hst.out (by omega) (by omega), Lib.hid ⟨hbx0.out, hby0.out, below_drewN hbr _⟩⟩
            case measure => simp [intOf] <;> omega
      · go_wp2_with fail
        go_quiet (fail)
        go_wp2_with fail
        go_roundw
        case rel => exact ⟨(k : Int) - 1, v, by omega, by omega, rfl, rfl, hsk.out hdm, Lib.hid ⟨hbx0.out, hby0.out, below_drewN hbr _⟩⟩
        case measure => simp [intOf] <;> omega
    · obtain rfl : i = -1 := by omega
      obtain ⟨cx, fx, zx⟩ := blk hbx
      obtain ⟨cy, fy, zy⟩ := blk hby
      go_wp2_with fail
      refine bodyPost_ret (v := .int .i64 v) (by simp [results, Try.results75, go_sem, *]) rfl ?_
      exact ⟨by rw [HE.out v _ (fun t => by omega) hdu], hbr⟩
end Go.Proofs.Ytinlmkhlgclbfab
end

section
namespace Go.Proofs.Ytinlmkhlgclbfab
open Go.RowKit Go.Shelf
attribute [local go_sem] Oper.semAt_some
set_option maxRecDepth 100000
set_option maxHeartbeats 4000000

theorem below_putObj {B : Nat} {a w : World} (h : Below B a w) {k : Nat} (hk : B ≤ k) (o : Obj) : Below B a (w.putObj k o) :=
  h.trans ⟨rfl, rfl, rfl, by simp, fun j hj => World.putObj_heap_other (by omega)⟩
theorem mem_mineTo {c : TCfg} {m : Int} {i t : Nat} : t ∈ mineTo c m i ↔ t < i ∧ (nth c.tasks t).dom = m := by
  unfold mineTo; simp
theorem IsDue.mine {c : TCfg} {m : Int} {d : TDom} {v : Int} (h : IsDue c m d (fun t => t ∈ mineTo c m c.tasks.length) v) : IsDue c m d (fun t => t < c.tasks.length) v := by
  rcases h with ⟨rfl, h⟩ | ⟨t, h1, h2, h3, h4, h5⟩
  · refine .inl ⟨rfl, fun t ht hd => ?_⟩
    exact h t (mem_mineTo.2 ⟨ht, hd⟩) hd
  · exact .inr ⟨t, (mem_mineTo.1 h1).1, h2, h3, h4, fun u hu hdu => h5 u (mem_mineTo.2 ⟨hu, hdu⟩) hdu⟩

/-- between two rounds of Soon's loop -/
structure SoonI (w : World) (gk : Nat) (c : TCfg) (m : Int) (d : TDom) (pre : List Nat) (W : World) : Prop where
  all : Below w.heap.size w W ∧ ∃ v, W.heap[w.heap.size]? = some (.cells #[.pointer (some ⟨gk, 0, none⟩)] 155) ∧ W.heap[w.heap.size + 1]? = some (.cells #[.int .i64 v] 3) ∧ IsDue c m d (fun t => t ∈ pre) v
theorem keeperSoon (gk : Nat) (G : Nat → Nat → Prop) (B : Nat) (w : World) (c : TCfg) (S : TCfgS) (m : Int) (d : TDom) (T : TDomS) (h : Kp gk G B w c S m d T) (hc : CfgOk c) (hd : DomOkW c m d) :
    Calls Try.prog 150 #[.pointer (some ⟨gk, 0, none⟩)] w fun e w' => e = .returned (.int .i64 (dueOf c m d)) ∧ Below w.heap.size w w' := by
  have HN := Lib.hid (fun W (hb : Below w.heap.size w W) i (hi : i < c.tasks.length) => keeperNext gk G B W c S m d T (h.ext hb) i hi (by rw [hd.lrel]; exact hi) (by have := (hc.task i hi).2.1; omega) (hd.rel i (by rw [hd.lrel]; exact hi)) hc.ntasks)
  have HK := Lib.hid (fun W (hb : Below w.heap.size w W) => h.ext hb)
  have HR := Lib.hid (fun i (hi : i < c.tasks.length) => relAt_rng hc hd hi)
  have HE := Lib.hid (fun v h => IsDue.due (v := v) (p := fun t => t < c.tasks.length) hc hd (fun _ => Iff.rfl) h)
  have h6 := hc.ntasks
  have hz := (blk h.blk).2.2
  clear h hc hd
  refine (callsIn_wide (n := 5)).1 ?_
  refine callsIn_of_wp_marks Try.func150 rfl trivial ?_ rfl
  simp only [Try.ntmps150, List.size_toArray, List.length_cons, List.length_nil, Nat.reduceAdd, Nat.reduceSub, Array.replicate_succ, Array.replicate_zero, List.push_toArray, List.append_toArray, List.nil_append, List.cons_append]
  gi_wp2
  refine wpIn_rangeB rfl (by omega) (gf := 145) (fb := #[.pointer (some ⟨gk, 0, none⟩)]) rfl trivial (enters_of Try.func145 (by kernel_rfl) rfl) (mineIt _ (by omega) gk B c S m h6) (fun _ => rfl)
    (SoonI w gk c m d) ?hRd ?hext ?hput ?h0
    (fun i => { tmps := #[.pointer (some ⟨gk, 0, none⟩), .pointer (some ⟨w.heap.size, 0, none⟩), .int .i64 0, .pointer (some ⟨w.heap.size + 1, 0, none⟩), .int .i64 i, undef, .pointer (some ⟨gk, 0, none⟩), .func (.func 145) #[.pointer (some ⟨gk, 0, none⟩)] #[], .int .i64 i, undef, undef, undef, undef, undef, undef, undef, undef, undef, undef, undef, undef], defers := [] }) ?assign ?body ?done
  case hRd => exact fun pre A h => ⟨G, d, T, HK.out A h.all.1⟩
  case hext =>
    rintro pre A A' ⟨⟨hb, v, h1, h2, h3⟩⟩ hx
    exact ⟨⟨hb.trans (hx.mono hb.size), v, (hx.block _ (blk h1).2.2).trans h1, (hx.block _ (blk h2).2.2).trans h2, h3⟩⟩
  case hput =>
    rintro pre A o ⟨⟨hb, v, h1, h2, h3⟩⟩
    exact ⟨⟨below_putObj hb (by simp; omega) _, v, (World.putObj_heap_other (by simp <;> omega)).trans h1, (World.putObj_heap_other (by simp <;> omega)).trans h2, h3⟩⟩
  case h0 =>
    intro W1 hW1 hb
    refine ⟨⟨Below.trans (byB) (hb.mono (by simp; omega)), -1, (hb.block _ byS).trans byH, (hb.block _ byS).trans byH, IsDue.start _ _ _ _ (by simp)⟩⟩
  case assign =>
    intro l x W K hK
    gi_wp2
    exact hK
  case body =>
    rintro pre x W ⟨hx, hxm⟩ hsz ⟨⟨hb, v, h1, h2, h3⟩⟩ hlen
    have hr := HR.out x hx
    obtain ⟨c1, f1, z1⟩ := blk h1
    obtain ⟨c2, f2, z2⟩ := blk h2
    simp at hsz
    have hbw := hb.size
    gi_wp2_with (refine ⟨trivial, ?_⟩; gi_at_call 146; refine (CallsIn.inRound _ (callsIn_wide.2 (HN.out W hb x hx))).mono ?_; rintro e w2 ⟨rfl, n2, rfl⟩)
    · exact ⟨heap_set_far rfl byS, heap_set_far rfl byS, ⟨⟨byB, relAt c x d, byH, (heap_set_same (w := W.drewN n2) h2).trans (by simp [Array.setIfInBounds]), h3.take (fun t => by simp) hxm hr.1 (by omega)⟩⟩⟩
    · exact ⟨⟨byB, v, byH, byH, h3.stay (k := x) (fun t => by simp) (by omega) (by omega)⟩⟩
    · exact ⟨heap_set_far rfl byS, heap_set_far rfl byS, ⟨⟨byB, relAt c x d, byH, (heap_set_same (w := W.drewN n2) h2).trans (by simp [Array.setIfInBounds]), h3.take (fun t => by simp) hxm hr.1 (by omega)⟩⟩⟩
  case done =>
    rintro xs W rfl ⟨⟨hb, v, h1, h2, h3⟩⟩ hk hsz
    have hv := HE.out v h3.mine
    obtain ⟨c1, f1, z1⟩ := blk h1
    obtain ⟨c2, f2, z2⟩ := blk h2
    gi_wp2
    refine ⟨by simp, .inl ⟨_, _, rfl, run_takeDeferred hk, ?_⟩⟩
    refine ⟨_, results_tmp rfl _ _ _, by simp [Act.eval], below_putObj hb (by simp; omega) _⟩
end Go.Proofs.Ytinlmkhlgclbfab
end

section
namespace Go.Proofs.Ytinlmkhlgclbfab
open Go.RowKit

/-- an operation that defers nothing, carried out in a round -/
theorem wpIn_of_wpOp {n l : Nat} {P : Program} {Q : Exit → Act → World → Prop} {o : Oper} {a : Act} {w : World} {K : Act → World → Prop} (ho : ∀ c, o.op ≠ .defer c) (h : o.wp P a w K Q) : o.wpIn (Fence.wide.inRound l) n P a w K Q := by
  refine ⟨fun _ _ => trivial, ?_⟩
  rw [Oper.semAt_eq _ _ _ ho]
  unfold Oper.wp at h
  generalize (execOp a.eval o).run P w = r at *
  cases r with
  | ok x w' =>
    cases x with
    | value v => exact h
    | skip => exact h
    | defer d => exact h
    | enter f args => exact ⟨fun h0 => (by cases h0), CallsIn.inRound l (callsIn_wide.2 h)⟩
    | row r args =>
      refine ⟨fun h0 => (by cases h0), fun c cs _ => ?_⟩
      obtain ⟨v, w2, h1, h2⟩ := h c cs
      exact ⟨v, w2, h1, stepsIn_wide.2 h2⟩
    | _ => exact h.elim
  | halt x w' =>
    cases x with
    | panic v => exact h
    | _ => exact h.elim
/-- no operation of the list is a defer statement -/
def noDefer (l : List Oper) : Bool := l.all fun o => match o.op with | .defer _ => false | _ => true
theorem noDefer_at {l : List Oper} (h : noDefer l = true) {i : Nat} {o : Oper} (hi : l[i]? = some o) : ∀ c, o.op ≠ .defer c := by
  intro c hc
  have := List.all_eq_true.1 h o (List.mem_of_getElem? hi)
  rw [hc] at this
  cases this
theorem wpAnyIn_of_wpAny {n r : Nat} {P : Program} {Q : Exit → Act → World → Prop} {lo : List Oper} (hd : noDefer lo = true) (hQ : ¬ LetsOut Q) :
    ∀ (fuel : Nat) (l : Array Bool) (a : Act) (w : World), wpAny P .any lo.toArray Q fuel l a w → wpAnyIn (Fence.wide.inRound r) n P .any lo.toArray Q fuel l a w := by
  intro fuel
  induction fuel with
  | zero => exact fun l a w h => h
  | succ fuel ih =>
    intro l a w h
    refine ⟨h.1, fun i hi => ?_⟩
    have h2 := h.2 i hi
    unfold wpOp at h2
    unfold wpOpIn
    cases ho : lo.toArray[i]? with
    | none =>
      rw [ho] at h2
      exact ih _ _ _ h2
    | some o =>
      rw [ho] at h2
      dsimp only at h2 ⊢
      by_cases hw : Region.wanted o (yielded lo.toArray a.tmps) = true
      · rw [if_pos hw] at h2 ⊢
        rcases h2 with h2 | ⟨_, h2⟩
        · exact Oper.wpIn_mono (fun a w h => ih _ a w h) (wpIn_of_wpOp (noDefer_at hd (by simpa using ho)) h2)
        · exact absurd h2 hQ
      · rw [if_neg hw] at h2 ⊢
        exact ⟨fun _ _ => trivial, ih _ _ _ h2⟩
/-- RegInv's law in a round, the operations told as outside -/
theorem wpR_region_inv {n r : Nat} {P : Program} {Q : Exit → Act → World → Prop} {id : Nat} {a : Act} {w : World} {lo : List Oper} (sl : List Nat) (R : Array Bool → (Nat → Value) → World → Prop) (hm : P.follows .mixedOrders = true) (hnd : sl.Nodup) (ht : topoB lo.toArray = true) (hd : noDefer lo = true) (hQ : ¬ LetsOut Q) (hsz : ∀ s ∈ sl, s < a.tmps.size)
    (h0 : ∀ l, l.size = lo.length → (∀ i, ¬ Lst l i) → R l (fun s => a.tmps.getD s undef) w.drew) (hs : StepsL P R a sl 0 lo)
    (he : ∀ l f w, R l f w → (∀ i, i < lo.length → Lst l i) → Q .normal (putF a sl f) w) : (Code.region id lo.toArray true).wpIn (Fence.wide.inRound r) n P Q a w := by
  refine wpIn_region_any hm (wpAnyIn_of_wpAny hd hQ _ _ _ _ ?_)
  have hS : StepsI P lo.toArray Q R a sl (List.range lo.toArray.size) := by
    intro i hi o ho l f w hR hn hb
    have ho' : lo[i]? = some o := by simpa using ho
    obtain ⟨hd, h⟩ := StepsL.at lo 0 hs i o ho'
    rw [Nat.zero_add] at h
    refine ⟨hd, wpOp_step ho (fun K' hK => ?_)⟩
    obtain ⟨hg, hw⟩ := h l f w hR hn hb K' Q (Lib.hid fun v w' hR' => hK _ _ ⟨v, rfl, hR'⟩)
    have hwt : Region.wanted o (yielded lo.toArray (putF a sl f).tmps) = true := by simp [Region.wanted, hg]
    rw [if_pos hwt]
    exact hw
  have h := wpAny_inv (P := P) (Q := Q) hnd ht hS (fun l f w hR hall => he l f w hR fun i hi => hall i (by simpa using hi)) lo.toArray.size (Array.replicate lo.toArray.size false) (fun s => a.tmps.getD s undef) w.drew (by simp) (by simp) (h0 _ (by simp) fun i => by unfold Lst; rw [Array.getD_eq_getD_getElem?, Array.getElem?_replicate]; split <;> simp)
  rw [putF_self a sl hsz] at h
  exact h
/-- a region that only reads, in a round -/
theorem wpR_region_quiet {n r : Nat} {P : Program} {id : Nat} {Q : Exit → Act → World → Prop} {a : Act} {w : World} {l : List Oper} (hm : P.follows .mixedOrders = true) (hd : noDefer l = true) (hQ : ¬ LetsOut Q) (hB : Region.lexB .any l.toArray = true)
    (h : wpQuiet P l.toArray (fun w' => ∃ k, w' = w.drewN k) (fun a' => ∀ w', (∃ k, w' = w.drewN k) → Q .normal a' w') l a) : (Code.region id l.toArray true).wpIn (Fence.wide.inRound r) n P Q a w := by
  simp only [Region.lexB, Bool.and_eq_true] at hB
  have walk := wpAnyQ_lex (C := fun w' => ∃ k, w' = w.drewN k) (md := .any) hB.1 l 0 (Array.replicate l.toArray.size false) a (by simp) (by simpa using hB.2) h
  refine wpIn_region_any hm (wpAnyIn_of_wpAny hd hQ _ _ _ _ (wpAny_of_quiet (C := fun w' => ∃ k, w' = w.drewN k) (Q := fun a' => ∀ w', (∃ k, w' = w.drewN k) → Q .normal a' w') (fun _ w' hw' h => h w' hw') _ _ _ _ ⟨1, rfl⟩ ?_))
  simpa using walk
/-- a region whose operations are still but for the last ones, in a round -/
theorem wpR_region_still_tail {n r : Nat} {P : Program} {id : Nat} {Q : Exit → Act → World → Prop} {a : Act} {w : World} {l : List Oper} (k : Nat) (hm : P.follows .mixedOrders = true) (hd : noDefer l = true) (hQ : ¬ LetsOut Q) (hB : Region.lexTailB .any l.toArray k = true)
    (h : wpStill P l.toArray w.drew (fun a' => wpList P l.toArray Q (l.drop k) a' w.drew) (l.take k) a) : (Code.region id l.toArray true).wpIn (Fence.wide.inRound r) n P Q a w := by
  refine wpIn_region_any hm (wpAnyIn_of_wpAny hd hQ _ _ _ _ ?_)
  simp only [Region.lexTailB, Bool.and_eq_true, decide_eq_true_eq] at hB
  obtain ⟨⟨⟨⟨hsel, hlt⟩, hst⟩, hcl⟩, hlx⟩ := hB
  have hlt' : k < l.length := by simpa using hlt
  have htk : (l.take k).length = k := by simp; omega
  have hdr : (l.drop k).length = l.toArray.size - k := by simp
  have start : HeadInv .any l.toArray k (Array.replicate l.toArray.size false) :=
    ⟨by simp, fun _ _ _ hl => (by rw [getD_replicate_false] at hl; cases hl), fun t _ ht => getD_in (by simpa using ht) (getD_replicate_false _ _)⟩
  have head := wpAnyL_lex (md := .any) (g := l.toArray.size - k) hsel hst hcl hlt (l.take k) 0 _ a
    (fun j hj => by have hj' : j < k := (by rw [htk] at hj; exact hj); simp [hj']) (by simpa using htk) start (by rw [htk]; exact hlx) h
  have whole := wpAny_of_head (Q' := Q) (g := l.toArray.size - k) (fun listed a' hL => by
    have tail := wpAny_of_seq (md := .any) (Q' := Q) (l.drop k) k listed a' w.drew (fun j => by simp [List.getElem?_drop]) (by rw [hdr]; exact hL.1) hL.2
    rwa [hdr] at tail) _ _ _ head
  rw [htk, show k + (l.toArray.size - k) = l.toArray.size by omega] at whole
  exact whole
end Go.Proofs.Ytinlmkhlgclbfab
end
