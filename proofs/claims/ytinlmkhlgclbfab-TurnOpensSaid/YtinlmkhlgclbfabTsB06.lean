/- DomIs -/
import Derived.Test.YtinlmkhlgclbfabTsA35
import Derived.Test.YtinlmkhlgclbfabTsA29
namespace Go.Proofs.Ytinlmkhlgclbfab
open Go.RowKit
set_option maxRecDepth 100000
set_option maxHeartbeats 8000000

theorem lawDomainIs (d : TDom) (S T : TDomS) (err : Int) (hz : err ≠ 0 → d = noDom) (B : Nat) (w : World) (hB : B ≤ w.heap.size) (hs : TDom.At (Low B) w d S) (ht : TDom.At (Low B) w d T) :
    Calls Try.prog 20 #[.agg #[.slice S.a0 d.jobs.length S.n0, .slice S.a1 d.released.length S.n1, .int .i64 d.next, .slice S.a2 d.ins.length S.n2, .slice S.a3 d.taken.length S.n3, .slice S.a4 d.outs.length S.n4, .slice S.a5 d.events.length S.n5], .int .i64 err, .int .i64 err, .agg #[.slice T.a0 d.jobs.length T.n0, .slice T.a1 d.released.length T.n1, .int .i64 d.next, .slice T.a2 d.ins.length T.n2, .slice T.a3 d.taken.length T.n3, .slice T.a4 d.outs.length T.n4, .slice T.a5 d.events.length T.n5]] w fun e w' => e = .returned (.bool true) ∧ Below w.heap.size w w' := by
  by_cases he : err = 0
  · subst he
    have HS := Lib.hid (fun W (h : Below w.heap.size w W) => refSameDomain d S T B W (Nat.le_trans hB h.size) (hs.next hB h) (ht.next hB h))
    go_enter Try.func20, Try.ntmps20
    go_wp2_with (go_at_call 60; refine (HS.out _ byB).mono ?_; rintro e w1 ⟨rfl, hb1⟩)
    go_ret
    exact ⟨rfl, byB⟩
  · have hd := hz he
    subst hd
    have HS := fun W (h : Below w.heap.size w W) => refSameDomain noDom S noDomS B W (Nat.le_trans hB h.size) (hs.next hB h) ((noDom_own W).read fun _ _ h => h.elim)
    have b1 : (err != 0) = true := by simp [he]
    simp only [noDom, noDomS, List.length_nil] at HS ⊢
    replace HS := Lib.hid HS
    clear hz hs ht he
    go_enter Try.func20, Try.ntmps20
    go_wp2_with (go_at_call 60; refine (HS.out _ byB).mono ?_; rintro e w1 ⟨rfl, hb1⟩)
    go_ret
    exact ⟨rfl, byB⟩
end Go.Proofs.Ytinlmkhlgclbfab
