/-
  DERIVED. GIVEN WITH THE SEED: THE CARDS: each row of YtinlmkhlgclbfabDoorRows.lean that lists a variable, with what it lists TIED to the program's text (the seventh form; the later family's looks); each row that meets fmt, with fmt's text TOLD by the authors' own Lean function (tested against real Go, not proved from fmt's source: count such statements apart). THE CARD IS WHAT COUNTS. Prove the row's statement (the work); the ties are given (YtinlmkhlgclbfabDoorTie.lean); close each card by the builder's one call (the guide's Derived/Test/ToyasCard.lean, 'card_holds'). Laid BY PROGRAM, IN A SANDBOX (cutbox-door.mjs). By AI agents, Wed Nov 11 2026. No macro, syntax, notation, axiom, sorry.
-/
import Derived.Test.YtinlmkhlgclbfabDoorRows
import GoSem.ClaimSeven
namespace Go.Proofs.YtinlmkhlgclbfabDoor
namespace Rows

/-- THE TIED CARD OF 'clockwalllaw.ApartSame'. -/
def apartSameCard : Claim7 := { stood := { row := apartSameRow, standIns := [], harness := (true, "e19cbd6506079a0e25da712b86f29db75a64c17176172faacfee2c116c2f6fc2"), looks := false }, kinds := [], alts := [], laidByText := true, laidKinds := [.data, .data, .data], laidTests := true, laidLooks := .later }
def ApartSameCardSaid : Prop := Claim7.holds Tryd.pinned (.plain (OpenSpec.ofChange apartSameSpec)) apartSameCard

/-- THE TIED CARD OF 'clockwalllaw.ApartAlone'. -/
def apartAloneCard : Claim7 := { stood := { row := apartAloneRow, standIns := [], harness := (true, "e19cbd6506079a0e25da712b86f29db75a64c17176172faacfee2c116c2f6fc2"), looks := false }, kinds := [], alts := [], laidByText := true, laidKinds := [.data, .data, .data], laidTests := true, laidLooks := .later }
def ApartAloneCardSaid : Prop := Claim7.holds Tryd.pinned (.plain (OpenSpec.ofChange apartAloneSpec)) apartAloneCard

/-- THE SECOND FORM's CARD OF 'clockwalllaw.ApartSame'. -/
def apartSameUptoCard : Claim7 := { stood := { row := apartSameUptoRow, standIns := [], harness := (true, "e19cbd6506079a0e25da712b86f29db75a64c17176172faacfee2c116c2f6fc2"), looks := false }, kinds := [], alts := [], laidByText := true, laidKinds := [.data, .data, .data], laidTests := true, laidLooks := .later }
def ApartSameUptoCardSaid : Prop := Claim7.holds Tryd.pinned (.plain (OpenSpec.upto apartSameSpec)) apartSameUptoCard

/-- THE SECOND FORM's CARD OF 'clockwalllaw.ApartAlone'. -/
def apartAloneUptoCard : Claim7 := { stood := { row := apartAloneUptoRow, standIns := [], harness := (true, "e19cbd6506079a0e25da712b86f29db75a64c17176172faacfee2c116c2f6fc2"), looks := false }, kinds := [], alts := [], laidByText := true, laidKinds := [.data, .data, .data], laidTests := true, laidLooks := .later }
def ApartAloneUptoCardSaid : Prop := Claim7.holds Tryd.pinned (.plain (OpenSpec.upto apartAloneSpec)) apartAloneUptoCard
end Rows
end Go.Proofs.YtinlmkhlgclbfabDoor
