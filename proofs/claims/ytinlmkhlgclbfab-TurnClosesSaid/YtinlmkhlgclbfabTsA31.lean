/- TurnQ OwnD -/
import Derived.Test.YtinlmkhlgclbfabTsA13
import Derived.Test.YtinlmkhlgclbfabTsA16
section
namespace Go.Proofs.Ytinlmkhlgclbfab
open Go.RowKit

def comeR (r : TRing) (size : Int) (l : List Int) : TRing := ⟨comeVals r.vals l size.toNat, comeLost r.vals l r.lost size.toNat⟩
/-- F3: what was sent into channel i comes to where it goes -/
def moveTo (c : TCfg) (i : Nat) (ds : List TDom) : List TDom :=
  ds.set (nth c.chans i).dst.toNat { nth ds (nth c.chans i).dst.toNat with ins := (nth ds (nth c.chans i).dst.toNat).ins.set i (comeR (nth (nth ds (nth c.chans i).dst.toNat).ins i) (nth c.chans i).size (nth (nth ds (nth c.chans i).src.toNat).outs i)) }
def emptyOut (c : TCfg) (i : Nat) (ds : List TDom) : List TDom := ds.set (nth c.chans i).src.toNat { nth ds (nth c.chans i).src.toNat with outs := (nth ds (nth c.chans i).src.toNat).outs.set i [] }
def closeStep (c : TCfg) (from_ : Int) (i : Nat) (ds : List TDom) : List TDom := if (nth c.chans i).src = from_ then emptyOut c i (moveTo c i ds) else ds
def closeOf (c : TCfg) (s : Int) (ds : List TDom) : List TDom := upTo (closeStep c (slotDom c s)) c.chans.length 0 ds

/-- domains that values can be moved between -/
structure LvOk (c : TCfg) (ds : List TDom) : Prop where
  len : (ds.length : Int) = c.doms
  ins : ∀ k, k < ds.length → (nth ds k).ins.length = c.chans.length
  outs : ∀ k, k < ds.length → (nth ds k).outs.length = c.chans.length
  ring : ∀ k i, k < ds.length → i < c.chans.length → ((nth (nth ds k).ins i).vals.length : Int) ≤ (nth c.chans i).size ∧ 0 ≤ (nth (nth ds k).ins i).lost ∧ (nth (nth ds k).ins i).lost ≤ 100000
  out : ∀ k i, k < ds.length → i < c.chans.length → (nth (nth ds k).outs i).length ≤ 1000
theorem comeR_ok {r : TRing} {size : Int} {l : List Int} (h1 : 1 ≤ size) (h : (r.vals.length : Int) ≤ size ∧ 0 ≤ r.lost ∧ r.lost ≤ 100000) : ((comeR r size l).vals.length : Int) ≤ size ∧ 0 ≤ (comeR r size l).lost ∧ (comeR r size l).lost ≤ 100000 := by
  have : comeN r.vals l size.toNat ≤ l.length := by unfold comeN; omega
  have h3 : (l.take (comeN r.vals l size.toNat)).length = comeN r.vals l size.toNat := by rw [List.length_take]; omega
  refine ⟨?_, ?_, ?_⟩
  · show ((comeVals r.vals l size.toNat).length : Int) ≤ size
    unfold comeVals
    rw [List.length_append, h3]
    unfold comeN; omega
  · show 0 ≤ comeLost r.vals l r.lost size.toNat
    unfold comeLost; omega
  · show comeLost r.vals l r.lost size.toNat ≤ 100000
    unfold comeLost; omega
theorem LvOk.move {c : TCfg} {ds : List TDom} (ok : CfgOk c) (h : LvOk c ds) {i : Nat} (hi : i < c.chans.length) : LvOk c (moveTo c i ds) := by
  have hc := ok.chan i hi
  have hl := h.len
  have hd : (nth c.chans i).dst.toNat < ds.length := by omega
  have key : ∀ k, k < ds.length → nth (moveTo c i ds) k = if (nth c.chans i).dst.toNat = k then { nth ds (nth c.chans i).dst.toNat with ins := (nth ds (nth c.chans i).dst.toNat).ins.set i (comeR (nth (nth ds (nth c.chans i).dst.toNat).ins i) (nth c.chans i).size (nth (nth ds (nth c.chans i).src.toNat).outs i)) } else nth ds k := fun k hk => nth_set hk
  have hlen : (moveTo c i ds).length = ds.length := by simp [moveTo]
  refine ⟨by rw [hlen]; exact hl, fun k hk => ?_, fun k hk => ?_, fun k j hk hj => ?_, fun k j hk hj => ?_⟩
  · rw [hlen] at hk
    rw [key k hk]
    split
    · simpa using h.ins _ hd
    · exact h.ins k hk
  · rw [hlen] at hk
    rw [key k hk]
    split
    · exact h.outs _ hd
    · exact h.outs k hk
  · rw [hlen] at hk
    rw [key k hk]
    split
    · dsimp only
      rw [nth_set (by rw [h.ins _ hd]; exact hj)]
      split
      · rename_i e; subst e
        exact comeR_ok hc.2.2.2.1 (h.ring _ _ hd hj)
      · exact h.ring _ _ hd hj
    · exact h.ring k j hk hj
  · rw [hlen] at hk
    rw [key k hk]
    split
    · exact h.out _ _ hd hj
    · exact h.out k j hk hj
theorem LvOk.empty {c : TCfg} {ds : List TDom} (ok : CfgOk c) (h : LvOk c ds) {i : Nat} (hi : i < c.chans.length) : LvOk c (emptyOut c i ds) := by
  have hc := ok.chan i hi
  have hl := h.len
  have hd : (nth c.chans i).src.toNat < ds.length := by omega
  have key : ∀ k, k < ds.length → nth (emptyOut c i ds) k = if (nth c.chans i).src.toNat = k then { nth ds (nth c.chans i).src.toNat with outs := (nth ds (nth c.chans i).src.toNat).outs.set i [] } else nth ds k := fun k hk => nth_set hk
  have hlen : (emptyOut c i ds).length = ds.length := by simp [emptyOut]
  refine ⟨by rw [hlen]; exact hl, fun k hk => ?_, fun k hk => ?_, fun k j hk hj => ?_, fun k j hk hj => ?_⟩
  · rw [hlen] at hk
    rw [key k hk]
    split
    · exact h.ins _ hd
    · exact h.ins k hk
  · rw [hlen] at hk
    rw [key k hk]
    split
    · simpa using h.outs _ hd
    · exact h.outs k hk
  · rw [hlen] at hk
    rw [key k hk]
    split
    · exact h.ring _ _ hd hj
    · exact h.ring k j hk hj
  · rw [hlen] at hk
    rw [key k hk]
    split
    · dsimp only
      rw [nth_set (by rw [h.outs _ hd]; exact hj)]
      split
      · simp
      · exact h.out _ _ hd hj
    · exact h.out k j hk hj
theorem moveTo_len (c : TCfg) (i : Nat) (ds : List TDom) : (moveTo c i ds).length = ds.length := by simp [moveTo]
theorem closeStep_len (c : TCfg) (f : Int) (i : Nat) (ds : List TDom) : (closeStep c f i ds).length = ds.length := by unfold closeStep emptyOut moveTo; split <;> simp
theorem closeUp_len (c : TCfg) (f : Int) : ∀ n i (ds : List TDom), (upTo (closeStep c f) n i ds).length = ds.length := by
  intro n
  induction n with
  | zero => intro i ds; rfl
  | succ n ih => intro i ds; exact (ih (i + 1) _).trans (closeStep_len c f i ds)
theorem LvOk.step {c : TCfg} {ds : List TDom} (ok : CfgOk c) (h : LvOk c ds) {i : Nat} (hi : i < c.chans.length) (f : Int) : LvOk c (closeStep c f i ds) := by
  unfold closeStep
  split
  · exact (h.move ok hi).empty ok hi
  · exact h
theorem lvOk_of {c : TCfg} {ds : List TDom} (hl : (ds.length : Int) = c.doms) (h : ∀ k, k < ds.length → DomOk c (k : Int) (nth ds k)) : LvOk c ds :=
  ⟨hl, fun k hk => (h k hk).lin, fun k hk => (h k hk).lout, fun k i hk hi => by
    have h1 := (h k hk).ring i (by rw [(h k hk).lin]; exact hi)
    unfold checkRing at h1
    rw [ite_zero (by omega), ite_zero (by omega), ite_zero (by omega)] at h1
    simp only [Bool.or_eq_true, Bool.not_eq_true', not_or, Bool.not_eq_false, inB_true, and_true] at h1
    exact ⟨by omega, h1.2.2.2.1, h1.2.2.2.2⟩, fun k i hk hi => by
    have := ((h k hk).out i (by rw [(h k hk).lout]; exact hi)).1
    omega⟩
/-- Close's verdict -/
def closeErr (c : TCfg) (ds : List TDom) (s : Int) : Int :=
  if checkConfig c ≠ 0 then checkConfig c else if ¬ (0 ≤ s ∧ s < c.slots.length) then 5 else if (ds.length : Int) ≠ c.doms then 1 else firstE ds.length fun i => domErr c i (nth ds i)
def closeRes (c : TCfg) (ds : List TDom) (s : Int) : List TDom := if closeErr c ds s = 0 then closeOf c s ds else []
end Go.Proofs.Ytinlmkhlgclbfab
end

section
namespace Go.Proofs.Ytinlmkhlgclbfab
open Go.RowKit
set_option maxHeartbeats 1000000

theorem ownZ_live {w : World} {E : TypeId} {size : Nat} {g n c : Nat} {xs : List Value} (h : ownsZ w E size (.slice (some ⟨g, 0, none⟩) n c) n xs) (hc : 0 < c) : ∃ cur, w.heap[g]? = some (.cells cur E (0, 0)) := by
  rcases h with ⟨_, ⟨hv, _⟩ | ⟨g', cap, cur, hv, _, hh, _⟩⟩ | ⟨_, _, a, hv⟩
  · cases hv
  · injection hv with e1 _ _
    injection e1 with e1; injection e1 with e1
    subst e1
    exact ⟨cur, hh⟩
  · injection hv with _ _ e3; omega
/-- one element's memory has turned, its cells have not -/
theorem ozl_turn {T : Type} [Inhabited T] {e : OCod T} {E : TypeId} {F : Nat → Prop} {w : World} {v : Value} {xs : List T} (h : OZl e E F w v xs) {i : Nat} (hi : i < xs.length) :
    ∃ g c es Gi, v = .slice (some ⟨g, 0, none⟩) xs.length c ∧ F g ∧ g < w.heap.size ∧ e.rel Gi w es (nth xs i) ∧ CellsAt w g (i * e.cod.size) es ∧ (∀ b, Gi b → F b ∧ b ≠ g) ∧ (∀ o, w.frozen? ⟨g, o, none⟩ = false) ∧
      (∀ w' x' (Gx F' : Nat → Prop), e.rel Gx w' es x' → (∀ b, F b → ¬ Gi b → w'.heap[b]? = w.heap[b]?) → (∀ b, F b → F' b) → (∀ b, Gx b → F' b ∧ b ≠ g) → (∀ b, Gx b → F b → Gi b) → OZl e E F' w' v (xs.set i x')) := by
  obtain ⟨ess, G, h1, h2, h3, h4, h5, h6⟩ := h
  have hlen := ess_len h1 h4
  have hi' : i < ess.length := by omega
  obtain ⟨A', c', hv, hn, hm, hnil, _, hcase⟩ := ownZ_form h2
  rcases hcase with ⟨h0, _, _⟩ | ⟨g, rfl, hc0, hr, hg, hc, _⟩
  · omega
  · subst hv
    have hr' : rowZ (.slice (some ⟨g, 0, none⟩) xs.length c') = some g := hr
    refine ⟨g, c', ess[i], G i, rfl, h3 g hr, hg, by rw [nth_eq hi]; exact h4 i ess[i] xs[i] (List.getElem?_eq_getElem hi') (List.getElem?_eq_getElem hi), fun j u hu => ?_, fun b hb => ⟨(h5 i b hb).1, fun e1 => (h5 i b hb).2 (by rw [e1]; exact hr)⟩, fun o => ?_, fun w' x' Gx F' hx' hk hF hGx hGF => ?_⟩
    · have := hc (i * e.cod.size + j) u (flatten_slot ess i ess[i] hlen (List.getElem?_eq_getElem hi') j u hu)
      rwa [show i * e.cod.size + j = 0 + (i * e.cod.size + j) by omega]
    · obtain ⟨cur, hh⟩ := ownZ_live h2 hc0
      exact (blk hh).2.1 o
    · have hGn : ∀ j b, j ≠ i → G j b → ¬ G i b := fun j b hj hb => h6 j i b hj hb
      refine ⟨ess, fun j => if j = i then Gx else G j, by simpa using h1, ?_, fun b hb => hF b (h3 b hb), fun j es x hj hx => ?_, fun j b hb => ?_, fun j k b hjk hj hk' => ?_⟩
      · rw [List.length_set]
        exact ownZ_keep h2 fun b hb => hk b (h3 b hb) fun hG => (h5 i b hG).2 hb
      · dsimp only
        by_cases e1 : j = i
        · subst e1
          rw [if_pos rfl]
          rw [List.getElem?_set_self hi] at hx
          rw [List.getElem?_eq_getElem hi'] at hj
          injection hx with hx; injection hj with hj
          subst hx; subst hj
          exact hx'
        · rw [if_neg e1]
          rw [List.getElem?_set_ne (Ne.symm e1)] at hx
          exact e.keep (h4 j es x hj hx) fun b hb => hk b (h5 j b hb).1 fun hG => h6 j i b e1 hb hG
      · dsimp only at hb
        by_cases e1 : j = i
        · rw [if_pos e1] at hb
          exact ⟨(hGx b hb).1, fun e2 => (hGx b hb).2 (by rw [hr'] at e2; injection e2 with e2; exact e2.symm)⟩
        · rw [if_neg e1] at hb
          exact ⟨hF b (h5 j b hb).1, (h5 j b hb).2⟩
      · dsimp only at hj hk'
        by_cases e1 : j = i
        · rw [if_pos e1] at hj
          rw [if_neg (by omega)] at hk'
          exact h6 k i b (by omega) hk' (hGF b hj (h5 k b hk').1)
        · rw [if_neg e1] at hj
          by_cases e2 : k = i
          · rw [if_pos e2] at hk'
            exact h6 j i b e1 hj (hGF b hk' (h5 j b hj).1)
          · rw [if_neg e2] at hk'
            exact h6 j k b hjk hj hk'

/-- In[i] = r -/
theorem DomO.ring {G : Nat → Nat → Prop} {w : World} {d : TDom} {T : TDomS} (h : DomO G w d T) {i : Nat} (hi : i < d.ins.length) :
    ∃ g A c, T.a2 = some ⟨g, 0, none⟩ ∧ G 2 g ∧ g < w.heap.size ∧ w.cell? ⟨g, i * 2, none⟩ = some (.slice A (nth d.ins i).vals.length c) ∧ w.cell? ⟨g, i * 2 + 1, none⟩ = some (.int .i64 (nth d.ins i).lost) ∧ (∀ o, w.frozen? ⟨g, o, none⟩ = false) ∧ Sl cInt (G 2) w A c (nth d.ins i).vals ∧
      ∀ (W : World) (A' : Option Addr) (c' : Nat) (r : TRing), (∀ b, b < w.heap.size → W.heap[b]? = w.heap[b]?) → w.heap.size ≤ W.heap.size → ownsZ W 3 1 (.slice A' r.vals.length c') r.vals.length (r.vals.flatMap fun n => [Value.int .i64 n]) →
        (∀ b, rowZ (.slice A' r.vals.length c') = some b → w.heap.size ≤ b ∧ b < W.heap.size) →
        DomO (addG G 2 w.heap.size W.heap.size) ((W.setCell ⟨g, i * 2, none⟩ (.slice A' r.vals.length c')).setCell ⟨g, i * 2 + 1, none⟩ (.int .i64 r.lost)) { d with ins := d.ins.set i r } T := by
  obtain ⟨g, c0, es, Gi, hv, hFg, hg, hrel, hcs, hGi, all, hown, hlt, hput⟩ := ozl_put h.o2 hi
  injection hv with ea _ en
  obtain ⟨vv, rfl, hsl⟩ := hrel
  obtain ⟨A, c, rfl⟩ := hsl.form
  have hc0 : 0 < T.n2 := by
    obtain ⟨_, _, hv', hn', _⟩ := ownZ_form h.o2.choose_spec.choose_spec.2.1
    injection hv' with _ _ e3
    omega
  have hown' := hown
  rw [ea] at hown'
  obtain ⟨cur, hh⟩ := ownZ_live hown' hc0
  refine ⟨g, A, c, ea, hFg, hg, hcs 0 _ rfl, hcs 1 _ rfl, fun o => (blk hh).2.1 o, hsl.read.mono fun b hb => (hGi b hb).1, fun W A' c' r hk hs hr hrow => ?_⟩
  have hGlt : ∀ b, Gi b → b < w.heap.size := fun b hb => h.lt 2 b (hGi b hb).1
  have hkw : ∀ b, b < w.heap.size → b ≠ g → ((W.setCell ⟨g, i * 2, none⟩ (.slice A' r.vals.length c')).setCell ⟨g, i * 2 + 1, none⟩ (.int .i64 r.lost)).heap[b]? = w.heap[b]? := fun b hb hne =>
    (Below.heap_setCell _ _ _ _ hne).trans ((Below.heap_setCell _ _ _ _ hne).trans (hk b hb))
  have hkk : ∀ k b, k ≠ 2 → G k b → ((W.setCell ⟨g, i * 2, none⟩ (.slice A' r.vals.length c')).setCell ⟨g, i * 2 + 1, none⟩ (.int .i64 r.lost)).heap[b]? = w.heap[b]? := fun k b hne hb =>
    hkw b (h.lt k b hb) (fun e => h.dis k 2 b hne hb (by rw [e]; exact hFg))
  refine ⟨(h.o0.keep (hkk 0 · (by omega))).mono fun b hb => .inl hb, (h.o1.keep (hkk 1 · (by omega))).mono fun b hb => .inl hb, ?_, (h.o3.keep (hkk 3 · (by omega))).mono fun b hb => .inl hb, (h.o4.keep (hkk 4 · (by omega))).mono fun b hb => .inl hb, (h.o5.keep (hkk 5 · (by omega))).mono fun b hb => .inl hb, addG_dis h.dis h.lt, fun k b hb => ?_⟩
  · simp only [List.length_set]
    refine hput _ [.slice A' r.vals.length c', .int .i64 r.lost] r (fun b => rowZ (.slice A' r.vals.length c') = some b) _ rfl (fun all' ho hi' hl => ?_) ⟨_, rfl, ozl_flat.2 ⟨ownZ_keep hr fun b hb => ?_, fun b hb => hb⟩⟩ (fun b hb _ hne => hkw b (h.lt 2 b hb) hne) (fun b hb => .inl hb) (fun b hb => ⟨.inr ⟨rfl, hrow b hb⟩, fun e => ?_⟩) (fun b hb hF => ?_)
    · have hsz : (oRing.cod).size = 2 := rfl
      rw [hsz] at ho hi' hlt hown
      have k0 := hlt 0 (by omega)
      have k1 := hlt 1 (by omega)
      have hW : ownsZ W 113 2 (.slice (some ⟨g, 0, none⟩) d.ins.length T.n2) d.ins.length all := by
        rw [← ea]
        exact ownZ_keep hown fun b hb => hk b (ownZ_lt hown b hb)
      have h2 := ownZ_set (ownZ_set hW (j := i * 2) (by omega) (.slice A' r.vals.length c')) (j := i * 2 + 1) (by simp; omega) (.int .i64 r.lost)
      have : all' = (all.set (i * 2) (.slice A' r.vals.length c')).set (i * 2 + 1) (.int .i64 r.lost) := by
        refine List.ext_getElem? fun q => ?_
        rcases Nat.lt_or_ge q all.length with hq | hq
        · by_cases e0 : q = i * 2
          · subst e0
            have := hi' 0 (by omega)
            rw [Nat.add_zero] at this
            rw [this, List.getElem?_set_ne (by omega), List.getElem?_set_self (by omega)]; rfl
          · by_cases e1 : q = i * 2 + 1
            · subst e1
              rw [hi' 1 (by omega), List.getElem?_set_self (by simp; omega)]; rfl
            · rw [ho q hq (by omega), List.getElem?_set_ne (by omega), List.getElem?_set_ne (by omega)]
        · rw [List.getElem?_eq_none (by omega), List.getElem?_eq_none (by simpa using hq)]
      rw [this, ea]
      exact h2
    · have := hrow b hb
      exact (Below.heap_setCell _ _ _ _ (by show b ≠ g; omega)).trans (Below.heap_setCell _ _ _ _ (by show b ≠ g; omega))
    · have := hrow b hb; omega
    · have := hrow b hb; have := h.lt 2 b hF; omega
  · rcases hb with hb | hb
    · have := h.lt k b hb; simp; omega
    · simpa using hb.2.2

/-- Out[i] = l -/
theorem DomO.out {G : Nat → Nat → Prop} {w : World} {d : TDom} {T : TDomS} (h : DomO G w d T) {i : Nat} (hi : i < d.outs.length) :
    ∃ (g : Nat) (A : Option Addr) (c : Nat) (Gi : Nat → Prop), T.a4 = some ⟨g, 0, none⟩ ∧ G 4 g ∧ g < w.heap.size ∧ w.cell? ⟨g, i, none⟩ = some (.slice A (nth d.outs i).length c) ∧ (∀ o, w.frozen? ⟨g, o, none⟩ = false) ∧
      ownsZ w 3 1 (.slice A (nth d.outs i).length c) (nth d.outs i).length ((nth d.outs i).flatMap fun n => [Value.int .i64 n]) ∧ (∀ b, rowZ (.slice A (nth d.outs i).length c) = some b → Gi b) ∧ (∀ b, Gi b → G 4 b ∧ b ≠ g) ∧
      ∀ (W : World) (A' : Option Addr) (c' : Nat) (l : List Int), (∀ b, b < w.heap.size → ¬ Gi b → W.heap[b]? = w.heap[b]?) → w.heap.size ≤ W.heap.size → ownsZ W 3 1 (.slice A' l.length c') l.length (l.flatMap fun n => [Value.int .i64 n]) →
        (∀ b, rowZ (.slice A' l.length c') = some b → Gi b ∨ (w.heap.size ≤ b ∧ b < W.heap.size)) →
        DomO (addG G 4 w.heap.size W.heap.size) (W.setCell ⟨g, i, none⟩ (.slice A' l.length c')) { d with outs := d.outs.set i l } T := by
  obtain ⟨g, c0, es, Gi, hv, hFg, hg, hrel, hcs, hGi, all, hown, hlt, hput⟩ := ozl_put h.o4 hi
  injection hv with ea _ en
  obtain ⟨vv, rfl, hsl⟩ := hrel
  obtain ⟨A, c, rfl⟩ := hsl.form
  have hc0 : 0 < T.n4 := by
    obtain ⟨_, _, hv', hn', _⟩ := ownZ_form h.o4.choose_spec.choose_spec.2.1
    injection hv' with _ _ e3
    omega
  have hown' := hown
  rw [ea] at hown'
  obtain ⟨cur, hh⟩ := ownZ_live hown' hc0
  have hf := ozl_flat.1 hsl
  refine ⟨g, A, c, Gi, ea, hFg, hg, ?_, fun o => (blk hh).2.1 o, hf.1, hf.2, hGi, fun W A' c' l hk hs hr hrow => ?_⟩
  · have := hcs 0 _ rfl
    rwa [show i * (oInts.cod).size + 0 = i by show i * 1 + 0 = i; omega] at this
  have hrg : ∀ b, rowZ (.slice A' l.length c') = some b → b ≠ g := fun b hb => by
    rcases hrow b hb with h1 | h1
    · exact (hGi b h1).2
    · omega
  have hkw : ∀ b, b < w.heap.size → ¬ Gi b → b ≠ g → (W.setCell ⟨g, i, none⟩ (.slice A' l.length c')).heap[b]? = w.heap[b]? := fun b hb hG hne => (Below.heap_setCell _ _ _ _ hne).trans (hk b hb hG)
  have hkk : ∀ k b, k ≠ 4 → G k b → (W.setCell ⟨g, i, none⟩ (.slice A' l.length c')).heap[b]? = w.heap[b]? := fun k b hne hb =>
    hkw b (h.lt k b hb) (fun e => h.dis k 4 b hne hb (hGi b e).1) (fun e => h.dis k 4 b hne hb (by rw [e]; exact hFg))
  refine ⟨(h.o0.keep (hkk 0 · (by omega))).mono fun b hb => .inl hb, (h.o1.keep (hkk 1 · (by omega))).mono fun b hb => .inl hb, (h.o2.keep (hkk 2 · (by omega))).mono fun b hb => .inl hb, (h.o3.keep (hkk 3 · (by omega))).mono fun b hb => .inl hb, ?_, (h.o5.keep (hkk 5 · (by omega))).mono fun b hb => .inl hb, addG_dis h.dis h.lt, fun k b hb => ?_⟩
  · simp only [List.length_set]
    refine hput _ [.slice A' l.length c'] l (fun b => rowZ (.slice A' l.length c') = some b) _ rfl (fun all' ho hi' hl => ?_) ⟨_, rfl, ozl_flat.2 ⟨ownZ_keep hr fun b hb => ?_, fun b hb => hb⟩⟩ (fun b hb hG hne => hkw b (h.lt 4 b hb) hG hne) (fun b hb => .inl hb) (fun b hb => ⟨?_, hrg b hb⟩) (fun b hb hF => ?_)
    · have hsz : (oInts.cod).size = 1 := rfl
      rw [hsz] at ho hi' hlt hown
      have k0 := hlt 0 (by omega)
      have hW : ownsZ W 23 1 (.slice (some ⟨g, 0, none⟩) d.outs.length T.n4) d.outs.length all := by
        rw [← ea]
        refine ownZ_keep hown fun b hb => hk b (ownZ_lt hown b hb) fun hG => ?_
        rw [ea, rowZ_pos hc0] at hb
        injection hb with hb
        exact (hGi b hG).2 hb.symm
      have h2 := ownZ_set hW (j := i) (by omega) (.slice A' l.length c')
      have : all' = all.set i (.slice A' l.length c') := by
        refine List.ext_getElem? fun q => ?_
        rcases Nat.lt_or_ge q all.length with hq | hq
        · by_cases e0 : q = i
          · subst e0
            have := hi' 0 (by omega)
            rw [show q * 1 + 0 = q by omega] at this
            rw [this, List.getElem?_set_self (by omega)]; rfl
          · rw [ho q hq (by omega), List.getElem?_set_ne (by omega)]
        · rw [List.getElem?_eq_none (by omega), List.getElem?_eq_none (by simpa using hq)]
      rw [this, ea]
      exact h2
    · exact Below.heap_setCell _ _ _ _ (hrg b hb)
    · rcases hrow b hb with h1 | h1
      · exact .inl (hGi b h1).1
      · exact .inr ⟨rfl, h1⟩
    · rcases hrow b hb with h1 | h1
      · exact h1
      · have := h.lt 4 b hF; omega
  · rcases hb with hb | hb
    · have := h.lt k b hb; simp; omega
    · simpa using hb.2.2

/-- a domain in cells, that owns what it reaches -/
theorem DomO.at {G : Nat → Nat → Prop} {F : Nat → Prop} {w : World} {d : TDom} {T : TDomS} (h : DomO G w d T) (hF : ∀ i b, G i b → F b) : TDom.At F w d T :=
  ⟨h.o0.read.mono (hF 0), h.o1.read.mono (hF 1), h.o2.read.mono (hF 2), h.o3.read.mono (hF 3), h.o4.read.mono (hF 4), h.o5.read.mono (hF 5)⟩
def oDom : OCod TDom where
  cod := cDom
  rel := fun F w cs d => ∃ T G, cs = d.cells T ∧ DomO G w d T ∧ ∀ i b, G i b → F b
  toRead := fun {F w cs d} ⟨T, G, h1, h2, h3⟩ => ⟨T, h1, h2.at h3⟩
  keep := fun {F w w' cs d} ⟨T, G, h1, h2, h3⟩ hk => ⟨T, fun i b => G i b ∧ F b, h1, by
    have hb : ∀ i b, G i b → w'.heap[b]? = w.heap[b]? := fun i b hG => hk b (h3 i b hG)
    have hlt : ∀ i b, G i b ∧ F b → b < w'.heap.size := fun i b hG => by
      have h4 := h2.lt i b hG.1
      have h5 := hk b hG.2
      rw [Array.getElem?_eq_getElem h4] at h5
      exact (Array.getElem?_eq_some_iff.1 h5).1
    exact ⟨(h2.o0.keep (hb 0)).mono fun b hb => ⟨hb, h3 0 b hb⟩, (h2.o1.keep (hb 1)).mono fun b hb => ⟨hb, h3 1 b hb⟩, (h2.o2.keep (hb 2)).mono fun b hb => ⟨hb, h3 2 b hb⟩, (h2.o3.keep (hb 3)).mono fun b hb => ⟨hb, h3 3 b hb⟩, (h2.o4.keep (hb 4)).mono fun b hb => ⟨hb, h3 4 b hb⟩, (h2.o5.keep (hb 5)).mono fun b hb => ⟨hb, h3 5 b hb⟩, fun i j b hij h1 h2' => h2.dis i j b hij h1.1 h2'.1, hlt⟩, fun i b hG => hG.2⟩
  mono := fun ⟨T, G, h1, h2, h3⟩ hk => ⟨T, G, h1, h2, fun i b hb => hk b (h3 i b hb)⟩
/-- domains of one's own -/
def DomsO (F : Nat → Prop) (w : World) (v : Value) (ds : List TDom) : Prop := OZl oDom 45 F w v ds
end Go.Proofs.Ytinlmkhlgclbfab
end
