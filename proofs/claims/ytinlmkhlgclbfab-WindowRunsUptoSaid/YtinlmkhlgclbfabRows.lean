/-
  No cell of these rows narrows 'for every input' (looked for: loops, veiled, ifaces, maps, wideKeys, modest, calm, conditions, laid).
  DERIVED. THE GIVEN ROWS OF THIS SEAT. 7 by the template 'for every input the law returns true; each argument reads behind the call as it read before'; 0 by the template 'total and deterministic' (their statements: YtinlmkhlgclbfabTotals.lean).
  GIVEN WITH THE SEED: the statements are not yours to turn. If you find one false, say at which input.
  Laid BY PROGRAM, IN A SANDBOX (cutbox-rows.mjs): the forced cells as the released guide's own fill.sh prints them over the translation ff0a9c756d337d4d… (all of the seat's roots in one cut). By AI agents, Wed Nov 11 2026. No macro, syntax, notation, axiom, sorry.
-/
import Derived.Test.YtinlmkhlgclbfabChecked
import GoSem.Claim
import GoSem.ClaimJoined
import GoSem.ClaimMapViews
import Derived.JoinedTies
import Derived.KernelRfl
namespace Go.Proofs.Ytinlmkhlgclbfab
/- THE CELL 'sum', in the pinned program and in every row, IS THE sha256 OF THE DUMP (.gsa) THAT YtinlmkhlgclbfabProg.lean LOADS. Nothing in Lean hashes anything: it is a label: what it is worth is what the hold of that sum in a sandbox is worth. -/
noncomputable def Try.pinned : Pinned := { name := "ytinlmkhlgclbfab", sum := "ff0a9c756d337d4d753ee86358875b02754aa3c4da2c0c6734e74d34aa54445e", checked := Try.checked }
namespace Rows
def none {H : Type} : Left H := { results := [], args := [] }

/-- 'clockwalllaw.TurnStarts': WHATEVER THE INPUT: true; the input reads as it did. -/
def turnStartsSpec : ChangeSpec := { name := "turnStarts", fn := fun _ => fun
  | [d1, d2, d3] => { results := [.lit (.bool true)], args := [d1, d2, d3] }
  | _ => none }
def turnStartsRow : OpenClaim := { program := "ytinlmkhlgclbfab", sum := "ff0a9c756d337d4d753ee86358875b02754aa3c4da2c0c6734e74d34aa54445e", func := "clockwall/clockwalllaw.TurnStarts", spec := "turnStarts", unfollowed := true, recurses := true, apart := false }
def TurnStartsSaid : Prop := turnStartsRow.holds Try.pinned (OpenSpec.ofChange turnStartsSpec)

/-- ITS FALSE NEIGHBOUR: 'it returns false'. Refute it at one input. -/
def turnStartsWrong : ChangeSpec := { name := "turnStarts", fn := fun _ => fun
  | [d1, d2, d3] => { results := [.lit (.bool false)], args := [d1, d2, d3] }
  | _ => none }
def TurnStartsWrongFalsely : Prop := turnStartsRow.holds Try.pinned (OpenSpec.ofChange turnStartsWrong)

/-- 'clockwalllaw.TurnOpens': WHATEVER THE INPUT: true; the input reads as it did. -/
def turnOpensSpec : ChangeSpec := { name := "turnOpens", fn := fun _ => fun
  | [d1, d2, d3, d4, d5] => { results := [.lit (.bool true)], args := [d1, d2, d3, d4, d5] }
  | _ => none }
def turnOpensRow : OpenClaim := { program := "ytinlmkhlgclbfab", sum := "ff0a9c756d337d4d753ee86358875b02754aa3c4da2c0c6734e74d34aa54445e", func := "clockwall/clockwalllaw.TurnOpens", spec := "turnOpens", unfollowed := true, recurses := true, apart := false }
def TurnOpensSaid : Prop := turnOpensRow.holds Try.pinned (OpenSpec.ofChange turnOpensSpec)

/-- ITS FALSE NEIGHBOUR: 'it returns false'. Refute it at one input. -/
def turnOpensWrong : ChangeSpec := { name := "turnOpens", fn := fun _ => fun
  | [d1, d2, d3, d4, d5] => { results := [.lit (.bool false)], args := [d1, d2, d3, d4, d5] }
  | _ => none }
def TurnOpensWrongFalsely : Prop := turnOpensRow.holds Try.pinned (OpenSpec.ofChange turnOpensWrong)

/-- 'clockwalllaw.TurnCloses': WHATEVER THE INPUT: true; the input reads as it did. -/
def turnClosesSpec : ChangeSpec := { name := "turnCloses", fn := fun _ => fun
  | [d1, d2, d3] => { results := [.lit (.bool true)], args := [d1, d2, d3] }
  | _ => none }
def turnClosesRow : OpenClaim := { program := "ytinlmkhlgclbfab", sum := "ff0a9c756d337d4d753ee86358875b02754aa3c4da2c0c6734e74d34aa54445e", func := "clockwall/clockwalllaw.TurnCloses", spec := "turnCloses", unfollowed := true, recurses := true, apart := false }
def TurnClosesSaid : Prop := turnClosesRow.holds Try.pinned (OpenSpec.ofChange turnClosesSpec)

/-- ITS FALSE NEIGHBOUR: 'it returns false'. Refute it at one input. -/
def turnClosesWrong : ChangeSpec := { name := "turnCloses", fn := fun _ => fun
  | [d1, d2, d3] => { results := [.lit (.bool false)], args := [d1, d2, d3] }
  | _ => none }
def TurnClosesWrongFalsely : Prop := turnClosesRow.holds Try.pinned (OpenSpec.ofChange turnClosesWrong)

/-- 'clockwalllaw.WindowCosts': WHATEVER THE INPUT: true; the input reads as it did. -/
def windowCostsSpec : ChangeSpec := { name := "windowCosts", fn := fun _ => fun
  | [d1, d2] => { results := [.lit (.bool true)], args := [d1, d2] }
  | _ => none }
def windowCostsRow : OpenClaim := { program := "ytinlmkhlgclbfab", sum := "ff0a9c756d337d4d753ee86358875b02754aa3c4da2c0c6734e74d34aa54445e", func := "clockwall/clockwalllaw.WindowCosts", spec := "windowCosts", unfollowed := true, recurses := true, apart := false }
def WindowCostsSaid : Prop := windowCostsRow.holds Try.pinned (OpenSpec.ofChange windowCostsSpec)

/-- ITS FALSE NEIGHBOUR: 'it returns false'. Refute it at one input. -/
def windowCostsWrong : ChangeSpec := { name := "windowCosts", fn := fun _ => fun
  | [d1, d2] => { results := [.lit (.bool false)], args := [d1, d2] }
  | _ => none }
def WindowCostsWrongFalsely : Prop := windowCostsRow.holds Try.pinned (OpenSpec.ofChange windowCostsWrong)

/-- 'clockwalllaw.WindowRuns': WHATEVER THE INPUT: true; the input reads as it did. -/
def windowRunsSpec : ChangeSpec := { name := "windowRuns", fn := fun _ => fun
  | [d1, d2, d3, d4, d5, d6] => { results := [.lit (.bool true)], args := [d1, d2, d3, d4, d5, d6] }
  | _ => none }
def windowRunsRow : OpenClaim := { program := "ytinlmkhlgclbfab", sum := "ff0a9c756d337d4d753ee86358875b02754aa3c4da2c0c6734e74d34aa54445e", func := "clockwall/clockwalllaw.WindowRuns", spec := "windowRuns", unfollowed := true, recurses := true, apart := false }
def WindowRunsSaid : Prop := windowRunsRow.holds Try.pinned (OpenSpec.ofChange windowRunsSpec)

/-- ITS FALSE NEIGHBOUR: 'it returns false'. Refute it at one input. -/
def windowRunsWrong : ChangeSpec := { name := "windowRuns", fn := fun _ => fun
  | [d1, d2, d3, d4, d5, d6] => { results := [.lit (.bool false)], args := [d1, d2, d3, d4, d5, d6] }
  | _ => none }
def WindowRunsWrongFalsely : Prop := windowRunsRow.holds Try.pinned (OpenSpec.ofChange windowRunsWrong)

/-- 'clockwalllaw.WindowWithin': WHATEVER THE INPUT: true; the input reads as it did. -/
def windowWithinSpec : ChangeSpec := { name := "windowWithin", fn := fun _ => fun
  | [d1, d2, d3, d4, d5, d6] => { results := [.lit (.bool true)], args := [d1, d2, d3, d4, d5, d6] }
  | _ => none }
def windowWithinRow : OpenClaim := { program := "ytinlmkhlgclbfab", sum := "ff0a9c756d337d4d753ee86358875b02754aa3c4da2c0c6734e74d34aa54445e", func := "clockwall/clockwalllaw.WindowWithin", spec := "windowWithin", unfollowed := true, recurses := true, apart := false }
def WindowWithinSaid : Prop := windowWithinRow.holds Try.pinned (OpenSpec.ofChange windowWithinSpec)

/-- ITS FALSE NEIGHBOUR: 'it returns false'. Refute it at one input. -/
def windowWithinWrong : ChangeSpec := { name := "windowWithin", fn := fun _ => fun
  | [d1, d2, d3, d4, d5, d6] => { results := [.lit (.bool false)], args := [d1, d2, d3, d4, d5, d6] }
  | _ => none }
def WindowWithinWrongFalsely : Prop := windowWithinRow.holds Try.pinned (OpenSpec.ofChange windowWithinWrong)

/-- 'clockwalllaw.ApartTells': WHATEVER THE INPUT: true; the input reads as it did. -/
def apartTellsSpec : ChangeSpec := { name := "apartTells", fn := fun _ => fun
  | [d1, d2, d3] => { results := [.lit (.bool true)], args := [d1, d2, d3] }
  | _ => none }
def apartTellsRow : OpenClaim := { program := "ytinlmkhlgclbfab", sum := "ff0a9c756d337d4d753ee86358875b02754aa3c4da2c0c6734e74d34aa54445e", func := "clockwall/clockwalllaw.ApartTells", spec := "apartTells", unfollowed := true, recurses := true, apart := false }
def ApartTellsSaid : Prop := apartTellsRow.holds Try.pinned (OpenSpec.ofChange apartTellsSpec)

/-- ITS FALSE NEIGHBOUR: 'it returns false'. Refute it at one input. -/
def apartTellsWrong : ChangeSpec := { name := "apartTells", fn := fun _ => fun
  | [d1, d2, d3] => { results := [.lit (.bool false)], args := [d1, d2, d3] }
  | _ => none }
def ApartTellsWrongFalsely : Prop := apartTellsRow.holds Try.pinned (OpenSpec.ofChange apartTellsWrong)

/- THE SECOND FORM. 'bulk': how many values and letters a reading holds, each counted each time it is reached (what is shared counts as often as it is met; a slice's spare places count too). A statement '..UptoSaid' is the law's where the arguments, and the package variables that the reading takes, are together of bulk at most 1048576: NARROWER than '..Said'. Prove '..Said' where nothing that the law and all that it calls make is longer than what came in: it says more and counts as full. Else prove '..UptoSaid'. A law counts once. -/
mutual
def uptoBulk {H : Type} : DataW H → Nat
  | .lit (.string bytes) => bytes.length + 1
  | .lit _ => 1
  | .nil => 1
  | .ptr d => uptoBulk d + 1
  | .slice elems spare => uptoBulkAll elems + uptoBulkAll spare + 1
  | .agg parts => uptoBulkAll parts + 1
  | .iface _ d => uptoBulk d + 1
  | .map entries => uptoBulkEntries entries + 1
  | .held _ => 1
def uptoBulkAll {H : Type} : List (DataW H) → Nat
  | [] => 0
  | d :: r => uptoBulk d + uptoBulkAll r
def uptoBulkEntries {H : Type} : List (Lit × DataW H) → Nat
  | [] => 0
  | x :: r => uptoBulkEntry x + uptoBulkEntries r
def uptoBulkEntry {H : Type} : Lit × DataW H → Nat
  | (.string bytes, d) => bytes.length + uptoBulk d + 1
  | (_, d) => uptoBulk d + 1
 end
def uptoSmall : (H : Type) → List (DataW H) → Bool := fun _ ds => decide (uptoBulkAll ds ≤ 1048576)
def OpenSpec.upto (s : _root_.Go.ChangeSpec) : _root_.Go.OpenSpec := { _root_.Go.OpenSpec.ofChange s with cond := some uptoSmall }

/-- 'clockwalllaw.TurnStarts', WHERE WHAT IT READS IS OF BULK AT MOST 1048576: true; the input reads as it did. -/
def turnStartsUptoRow : OpenClaim := { program := "ytinlmkhlgclbfab", sum := "ff0a9c756d337d4d753ee86358875b02754aa3c4da2c0c6734e74d34aa54445e", func := "clockwall/clockwalllaw.TurnStarts", spec := "turnStarts", unfollowed := true, recurses := true, apart := false, narrowed := true }
def TurnStartsUptoSaid : Prop := turnStartsUptoRow.holds Try.pinned (OpenSpec.upto turnStartsSpec)

/-- 'clockwalllaw.TurnOpens', WHERE WHAT IT READS IS OF BULK AT MOST 1048576: true; the input reads as it did. -/
def turnOpensUptoRow : OpenClaim := { program := "ytinlmkhlgclbfab", sum := "ff0a9c756d337d4d753ee86358875b02754aa3c4da2c0c6734e74d34aa54445e", func := "clockwall/clockwalllaw.TurnOpens", spec := "turnOpens", unfollowed := true, recurses := true, apart := false, narrowed := true }
def TurnOpensUptoSaid : Prop := turnOpensUptoRow.holds Try.pinned (OpenSpec.upto turnOpensSpec)

/-- 'clockwalllaw.TurnCloses', WHERE WHAT IT READS IS OF BULK AT MOST 1048576: true; the input reads as it did. -/
def turnClosesUptoRow : OpenClaim := { program := "ytinlmkhlgclbfab", sum := "ff0a9c756d337d4d753ee86358875b02754aa3c4da2c0c6734e74d34aa54445e", func := "clockwall/clockwalllaw.TurnCloses", spec := "turnCloses", unfollowed := true, recurses := true, apart := false, narrowed := true }
def TurnClosesUptoSaid : Prop := turnClosesUptoRow.holds Try.pinned (OpenSpec.upto turnClosesSpec)

/-- 'clockwalllaw.WindowCosts', WHERE WHAT IT READS IS OF BULK AT MOST 1048576: true; the input reads as it did. -/
def windowCostsUptoRow : OpenClaim := { program := "ytinlmkhlgclbfab", sum := "ff0a9c756d337d4d753ee86358875b02754aa3c4da2c0c6734e74d34aa54445e", func := "clockwall/clockwalllaw.WindowCosts", spec := "windowCosts", unfollowed := true, recurses := true, apart := false, narrowed := true }
def WindowCostsUptoSaid : Prop := windowCostsUptoRow.holds Try.pinned (OpenSpec.upto windowCostsSpec)

/-- 'clockwalllaw.WindowRuns', WHERE WHAT IT READS IS OF BULK AT MOST 1048576: true; the input reads as it did. -/
def windowRunsUptoRow : OpenClaim := { program := "ytinlmkhlgclbfab", sum := "ff0a9c756d337d4d753ee86358875b02754aa3c4da2c0c6734e74d34aa54445e", func := "clockwall/clockwalllaw.WindowRuns", spec := "windowRuns", unfollowed := true, recurses := true, apart := false, narrowed := true }
def WindowRunsUptoSaid : Prop := windowRunsUptoRow.holds Try.pinned (OpenSpec.upto windowRunsSpec)

/-- 'clockwalllaw.WindowWithin', WHERE WHAT IT READS IS OF BULK AT MOST 1048576: true; the input reads as it did. -/
def windowWithinUptoRow : OpenClaim := { program := "ytinlmkhlgclbfab", sum := "ff0a9c756d337d4d753ee86358875b02754aa3c4da2c0c6734e74d34aa54445e", func := "clockwall/clockwalllaw.WindowWithin", spec := "windowWithin", unfollowed := true, recurses := true, apart := false, narrowed := true }
def WindowWithinUptoSaid : Prop := windowWithinUptoRow.holds Try.pinned (OpenSpec.upto windowWithinSpec)

/-- 'clockwalllaw.ApartTells', WHERE WHAT IT READS IS OF BULK AT MOST 1048576: true; the input reads as it did. -/
def apartTellsUptoRow : OpenClaim := { program := "ytinlmkhlgclbfab", sum := "ff0a9c756d337d4d753ee86358875b02754aa3c4da2c0c6734e74d34aa54445e", func := "clockwall/clockwalllaw.ApartTells", spec := "apartTells", unfollowed := true, recurses := true, apart := false, narrowed := true }
def ApartTellsUptoSaid : Prop := apartTellsUptoRow.holds Try.pinned (OpenSpec.upto apartTellsSpec)

end Rows
end Go.Proofs.Ytinlmkhlgclbfab
