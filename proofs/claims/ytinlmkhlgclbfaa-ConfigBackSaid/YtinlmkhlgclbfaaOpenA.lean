/-
  OpenA: ints and bools of this program, opened; a codec for another.
-/
import Derived.Test.YtinlmkhlgclbfaaOpen
import Derived.Test.YtinlmkhlgclbfaaData
import Derived.Test.YtinlmkhlgclbfaaProg
namespace Go.Proofs.Ytinlmkhlgclbfaa
open Go.ChangeShapes Go.WideShapes Go.ChangeAt Go.RowKit Go.Deep
set_option maxRecDepth 100000

theorem Opens.conv {P : Program} {T : Type} {e e' : Cod T} {ok : T → Prop} {t : TypeId} (h : Opens P e ok t) (hs : e.size = e'.size) (hr : ∀ I w cs x, e.rel I w cs x → e'.rel I w cs x) : Opens P e' ok t :=
  ⟨h.1.trans hs, fun H enc w fuel cs x hx hw => by
    obtain ⟨y, h1, h2⟩ := h.2 H enc w fuel cs x hx hw
    exact ⟨y, hr _ _ _ _ h1, h2⟩⟩
theorem Opens.weaken {P : Program} {T : Type} {e : Cod T} {ok ok' : T → Prop} {t : TypeId} (h : Opens P e ok t) (hr : ∀ x, ok x → ok' x) : Opens P e ok' t :=
  ⟨h.1, fun H enc w fuel cs x hx hw => by
    obtain ⟨y, h1, h2⟩ := h.2 H enc w fuel cs x hx hw
    exact ⟨y, h1, hr y h2⟩⟩
theorem opens_int3 : Opens Try.prog cInt okInt 3 := opens_int Try.underlying3 (by kernel_rfl)
theorem opens_bool4 : Opens Try.prog cBool okAny 4 := opens_bool Try.underlying4 (by kernel_rfl)
theorem opens_ints : Opens Try.prog cInt.slice (okList okInt 8) 22 := opens_slice Try.underlying22 (by kernel_rfl) (by kernel_rfl) (by decide) opens_int3
end Go.Proofs.Ytinlmkhlgclbfaa
