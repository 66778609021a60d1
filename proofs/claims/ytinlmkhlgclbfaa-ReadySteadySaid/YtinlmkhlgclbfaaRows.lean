/-
  No cell of these rows narrows 'for every input' (looked for: loops, veiled, ifaces, maps, wideKeys, modest, calm, conditions, laid).
  DERIVED. THE GIVEN ROWS OF THIS SEAT. 10 by the template 'for every input the law returns true; each argument reads behind the call as it read before'; 0 by the template 'total and deterministic' (their statements: YtinlmkhlgclbfaaTotals.lean).
  GIVEN WITH THE SEED: the statements are not yours to turn. If you find one false, say at which input.
  Laid BY PROGRAM, IN A SANDBOX (cutbox-rows.mjs): the forced cells as the released guide's own fill.sh prints them over the translation 6ac7c2b8a861872a… (all of the seat's roots in one cut). By AI agents, Wed Nov 11 2026. No macro, syntax, notation, axiom, sorry.
-/
import Derived.Test.YtinlmkhlgclbfaaChecked
import GoSem.Claim
import GoSem.ClaimJoined
import GoSem.ClaimMapViews
import Derived.JoinedTies
import Derived.KernelRfl
namespace Go.Proofs.Ytinlmkhlgclbfaa
/- THE CELL 'sum', in the pinned program and in every row, IS THE sha256 OF THE DUMP (.gsa) THAT YtinlmkhlgclbfaaProg.lean LOADS. Nothing in Lean hashes anything: it is a label: what it is worth is what the hold of that sum in a sandbox is worth. -/
noncomputable def Try.pinned : Pinned := { name := "ytinlmkhlgclbfaa", sum := "6ac7c2b8a861872a1e0c965493c08e49efceb29150001b949a93b815fb7b5326", checked := Try.checked }
namespace Rows
def none {H : Type} : Left H := { results := [], args := [] }

/-- 'clockwalllaw.MailRings': WHATEVER THE INPUT: true; the input reads as it did. -/
def mailRingsSpec : ChangeSpec := { name := "mailRings", fn := fun _ => fun
  | [d1, d2, d3] => { results := [.lit (.bool true)], args := [d1, d2, d3] }
  | _ => none }
def mailRingsRow : OpenClaim := { program := "ytinlmkhlgclbfaa", sum := "6ac7c2b8a861872a1e0c965493c08e49efceb29150001b949a93b815fb7b5326", func := "clockwall/clockwalllaw.MailRings", spec := "mailRings", unfollowed := true, recurses := true, apart := false }
def MailRingsSaid : Prop := mailRingsRow.holds Try.pinned (OpenSpec.ofChange mailRingsSpec)

/-- ITS FALSE NEIGHBOUR: 'it returns false'. Refute it at one input. -/
def mailRingsWrong : ChangeSpec := { name := "mailRings", fn := fun _ => fun
  | [d1, d2, d3] => { results := [.lit (.bool false)], args := [d1, d2, d3] }
  | _ => none }
def MailRingsWrongFalsely : Prop := mailRingsRow.holds Try.pinned (OpenSpec.ofChange mailRingsWrong)

/-- 'clockwalllaw.MailOrder': WHATEVER THE INPUT: true; the input reads as it did. -/
def mailOrderSpec : ChangeSpec := { name := "mailOrder", fn := fun _ => fun
  | [d1, d2, d3] => { results := [.lit (.bool true)], args := [d1, d2, d3] }
  | _ => none }
def mailOrderRow : OpenClaim := { program := "ytinlmkhlgclbfaa", sum := "6ac7c2b8a861872a1e0c965493c08e49efceb29150001b949a93b815fb7b5326", func := "clockwall/clockwalllaw.MailOrder", spec := "mailOrder", unfollowed := true, recurses := true, apart := false }
def MailOrderSaid : Prop := mailOrderRow.holds Try.pinned (OpenSpec.ofChange mailOrderSpec)

/-- ITS FALSE NEIGHBOUR: 'it returns false'. Refute it at one input. -/
def mailOrderWrong : ChangeSpec := { name := "mailOrder", fn := fun _ => fun
  | [d1, d2, d3] => { results := [.lit (.bool false)], args := [d1, d2, d3] }
  | _ => none }
def MailOrderWrongFalsely : Prop := mailOrderRow.holds Try.pinned (OpenSpec.ofChange mailOrderWrong)

/-- 'clockwalllaw.CacheTells': WHATEVER THE INPUT: true; the input reads as it did. -/
def cacheTellsSpec : ChangeSpec := { name := "cacheTells", fn := fun _ => fun
  | [d1, d2, d3, d4, d5] => { results := [.lit (.bool true)], args := [d1, d2, d3, d4, d5] }
  | _ => none }
def cacheTellsRow : OpenClaim := { program := "ytinlmkhlgclbfaa", sum := "6ac7c2b8a861872a1e0c965493c08e49efceb29150001b949a93b815fb7b5326", func := "clockwall/clockwalllaw.CacheTells", spec := "cacheTells", unfollowed := true, recurses := true, apart := false }
def CacheTellsSaid : Prop := cacheTellsRow.holds Try.pinned (OpenSpec.ofChange cacheTellsSpec)

/-- ITS FALSE NEIGHBOUR: 'it returns false'. Refute it at one input. -/
def cacheTellsWrong : ChangeSpec := { name := "cacheTells", fn := fun _ => fun
  | [d1, d2, d3, d4, d5] => { results := [.lit (.bool false)], args := [d1, d2, d3, d4, d5] }
  | _ => none }
def CacheTellsWrongFalsely : Prop := cacheTellsRow.holds Try.pinned (OpenSpec.ofChange cacheTellsWrong)

/-- 'clockwalllaw.CacheCosts': WHATEVER THE INPUT: true; the input reads as it did. -/
def cacheCostsSpec : ChangeSpec := { name := "cacheCosts", fn := fun _ => fun
  | [d1, d2, d3, d4] => { results := [.lit (.bool true)], args := [d1, d2, d3, d4] }
  | _ => none }
def cacheCostsRow : OpenClaim := { program := "ytinlmkhlgclbfaa", sum := "6ac7c2b8a861872a1e0c965493c08e49efceb29150001b949a93b815fb7b5326", func := "clockwall/clockwalllaw.CacheCosts", spec := "cacheCosts", unfollowed := true, recurses := true, apart := false }
def CacheCostsSaid : Prop := cacheCostsRow.holds Try.pinned (OpenSpec.ofChange cacheCostsSpec)

/-- ITS FALSE NEIGHBOUR: 'it returns false'. Refute it at one input. -/
def cacheCostsWrong : ChangeSpec := { name := "cacheCosts", fn := fun _ => fun
  | [d1, d2, d3, d4] => { results := [.lit (.bool false)], args := [d1, d2, d3, d4] }
  | _ => none }
def CacheCostsWrongFalsely : Prop := cacheCostsRow.holds Try.pinned (OpenSpec.ofChange cacheCostsWrong)

/-- 'clockwalllaw.MailArrives': WHATEVER THE INPUT: true; the input reads as it did. -/
def mailArrivesSpec : ChangeSpec := { name := "mailArrives", fn := fun _ => fun
  | [d1, d2, d3, d4, d5, d6] => { results := [.lit (.bool true)], args := [d1, d2, d3, d4, d5, d6] }
  | _ => none }
def mailArrivesRow : OpenClaim := { program := "ytinlmkhlgclbfaa", sum := "6ac7c2b8a861872a1e0c965493c08e49efceb29150001b949a93b815fb7b5326", func := "clockwall/clockwalllaw.MailArrives", spec := "mailArrives", unfollowed := true, recurses := true, apart := false }
def MailArrivesSaid : Prop := mailArrivesRow.holds Try.pinned (OpenSpec.ofChange mailArrivesSpec)

/-- ITS FALSE NEIGHBOUR: 'it returns false'. Refute it at one input. -/
def mailArrivesWrong : ChangeSpec := { name := "mailArrives", fn := fun _ => fun
  | [d1, d2, d3, d4, d5, d6] => { results := [.lit (.bool false)], args := [d1, d2, d3, d4, d5, d6] }
  | _ => none }
def MailArrivesWrongFalsely : Prop := mailArrivesRow.holds Try.pinned (OpenSpec.ofChange mailArrivesWrong)

/-- 'clockwalllaw.ConfigTells': WHATEVER THE INPUT: true; the input reads as it did. -/
def configTellsSpec : ChangeSpec := { name := "configTells", fn := fun _ => fun
  | [d] => { results := [.lit (.bool true)], args := [d] }
  | _ => none }
def configTellsRow : OpenClaim := { program := "ytinlmkhlgclbfaa", sum := "6ac7c2b8a861872a1e0c965493c08e49efceb29150001b949a93b815fb7b5326", func := "clockwall/clockwalllaw.ConfigTells", spec := "configTells", unfollowed := true, recurses := true, apart := false }
def ConfigTellsSaid : Prop := configTellsRow.holds Try.pinned (OpenSpec.ofChange configTellsSpec)

/-- ITS FALSE NEIGHBOUR: 'it returns false'. Refute it at one input. -/
def configTellsWrong : ChangeSpec := { name := "configTells", fn := fun _ => fun
  | [d] => { results := [.lit (.bool false)], args := [d] }
  | _ => none }
def ConfigTellsWrongFalsely : Prop := configTellsRow.holds Try.pinned (OpenSpec.ofChange configTellsWrong)

/-- 'clockwalllaw.ConfigDecodes': WHATEVER THE INPUT: true; the input reads as it did. -/
def configDecodesSpec : ChangeSpec := { name := "configDecodes", fn := fun _ => fun
  | [d] => { results := [.lit (.bool true)], args := [d] }
  | _ => none }
def configDecodesRow : OpenClaim := { program := "ytinlmkhlgclbfaa", sum := "6ac7c2b8a861872a1e0c965493c08e49efceb29150001b949a93b815fb7b5326", func := "clockwall/clockwalllaw.ConfigDecodes", spec := "configDecodes", unfollowed := true, recurses := true, apart := false }
def ConfigDecodesSaid : Prop := configDecodesRow.holds Try.pinned (OpenSpec.ofChange configDecodesSpec)

/-- ITS FALSE NEIGHBOUR: 'it returns false'. Refute it at one input. -/
def configDecodesWrong : ChangeSpec := { name := "configDecodes", fn := fun _ => fun
  | [d] => { results := [.lit (.bool false)], args := [d] }
  | _ => none }
def ConfigDecodesWrongFalsely : Prop := configDecodesRow.holds Try.pinned (OpenSpec.ofChange configDecodesWrong)

/-- 'clockwalllaw.ConfigBack': WHATEVER THE INPUT: true; the input reads as it did. -/
def configBackSpec : ChangeSpec := { name := "configBack", fn := fun _ => fun
  | [d1, d2] => { results := [.lit (.bool true)], args := [d1, d2] }
  | _ => none }
def configBackRow : OpenClaim := { program := "ytinlmkhlgclbfaa", sum := "6ac7c2b8a861872a1e0c965493c08e49efceb29150001b949a93b815fb7b5326", func := "clockwall/clockwalllaw.ConfigBack", spec := "configBack", unfollowed := true, recurses := true, apart := false }
def ConfigBackSaid : Prop := configBackRow.holds Try.pinned (OpenSpec.ofChange configBackSpec)

/-- ITS FALSE NEIGHBOUR: 'it returns false'. Refute it at one input. -/
def configBackWrong : ChangeSpec := { name := "configBack", fn := fun _ => fun
  | [d1, d2] => { results := [.lit (.bool false)], args := [d1, d2] }
  | _ => none }
def ConfigBackWrongFalsely : Prop := configBackRow.holds Try.pinned (OpenSpec.ofChange configBackWrong)

/-- 'clockwalllaw.ReadyTells': WHATEVER THE INPUT: true; the input reads as it did. -/
def readyTellsSpec : ChangeSpec := { name := "readyTells", fn := fun _ => fun
  | [d1, d2, d3, d4] => { results := [.lit (.bool true)], args := [d1, d2, d3, d4] }
  | _ => none }
def readyTellsRow : OpenClaim := { program := "ytinlmkhlgclbfaa", sum := "6ac7c2b8a861872a1e0c965493c08e49efceb29150001b949a93b815fb7b5326", func := "clockwall/clockwalllaw.ReadyTells", spec := "readyTells", unfollowed := true, recurses := true, apart := false }
def ReadyTellsSaid : Prop := readyTellsRow.holds Try.pinned (OpenSpec.ofChange readyTellsSpec)

/-- ITS FALSE NEIGHBOUR: 'it returns false'. Refute it at one input. -/
def readyTellsWrong : ChangeSpec := { name := "readyTells", fn := fun _ => fun
  | [d1, d2, d3, d4] => { results := [.lit (.bool false)], args := [d1, d2, d3, d4] }
  | _ => none }
def ReadyTellsWrongFalsely : Prop := readyTellsRow.holds Try.pinned (OpenSpec.ofChange readyTellsWrong)

/-- 'clockwalllaw.ReadySteady': WHATEVER THE INPUT: true; the input reads as it did. -/
def readySteadySpec : ChangeSpec := { name := "readySteady", fn := fun _ => fun
  | [d1, d2, d3, d4] => { results := [.lit (.bool true)], args := [d1, d2, d3, d4] }
  | _ => none }
def readySteadyRow : OpenClaim := { program := "ytinlmkhlgclbfaa", sum := "6ac7c2b8a861872a1e0c965493c08e49efceb29150001b949a93b815fb7b5326", func := "clockwall/clockwalllaw.ReadySteady", spec := "readySteady", unfollowed := true, recurses := true, apart := false }
def ReadySteadySaid : Prop := readySteadyRow.holds Try.pinned (OpenSpec.ofChange readySteadySpec)

/-- ITS FALSE NEIGHBOUR: 'it returns false'. Refute it at one input. -/
def readySteadyWrong : ChangeSpec := { name := "readySteady", fn := fun _ => fun
  | [d1, d2, d3, d4] => { results := [.lit (.bool false)], args := [d1, d2, d3, d4] }
  | _ => none }
def ReadySteadyWrongFalsely : Prop := readySteadyRow.holds Try.pinned (OpenSpec.ofChange readySteadyWrong)

/- THE SECOND FORM. 'bulk': how many values and letters a reading holds, each counted each time it is reached (what is shared counts as often as it is met; a slice's spare places count too). A statement '..UptoSaid' is the law's where the arguments, and the package variables that the reading takes, are together of bulk at most 1048576: NARROWER than '..Said'. Prove '..Said' where nothing that the law and all that it calls make is longer than what came in: it says more and counts as full. Else prove '..UptoSaid'. A law counts once. -/
mutual
def uptoBulk {H : Type} : DataW H → Nat
  | .lit (.string bytes) => bytes.length + 1
  | .lit _ => 1
  | .nil => 1
  | .ptr d => uptoBulk d + 1
  | .slice elems spare => uptoBulkAll elems + uptoBulkAll spare + 1
  | .agg parts => uptoBulkAll parts + 1
  | .iface _ d => uptoBulk d + 1
  | .map entries => uptoBulkEntries entries + 1
  | .held _ => 1
def uptoBulkAll {H : Type} : List (DataW H) → Nat
  | [] => 0
  | d :: r => uptoBulk d + uptoBulkAll r
def uptoBulkEntries {H : Type} : List (Lit × DataW H) → Nat
  | [] => 0
  | x :: r => uptoBulkEntry x + uptoBulkEntries r
def uptoBulkEntry {H : Type} : Lit × DataW H → Nat
  | (.string bytes, d) => bytes.length + uptoBulk d + 1
  | (_, d) => uptoBulk d + 1
 end
def uptoSmall : (H : Type) → List (DataW H) → Bool := fun _ ds => decide (uptoBulkAll ds ≤ 1048576)
def OpenSpec.upto (s : _root_.Go.ChangeSpec) : _root_.Go.OpenSpec := { _root_.Go.OpenSpec.ofChange s with cond := some uptoSmall }

/-- 'clockwalllaw.MailRings', WHERE WHAT IT READS IS OF BULK AT MOST 1048576: true; the input reads as it did. -/
def mailRingsUptoRow : OpenClaim := { program := "ytinlmkhlgclbfaa", sum := "6ac7c2b8a861872a1e0c965493c08e49efceb29150001b949a93b815fb7b5326", func := "clockwall/clockwalllaw.MailRings", spec := "mailRings", unfollowed := true, recurses := true, apart := false, narrowed := true }
def MailRingsUptoSaid : Prop := mailRingsUptoRow.holds Try.pinned (OpenSpec.upto mailRingsSpec)

/-- 'clockwalllaw.MailOrder', WHERE WHAT IT READS IS OF BULK AT MOST 1048576: true; the input reads as it did. -/
def mailOrderUptoRow : OpenClaim := { program := "ytinlmkhlgclbfaa", sum := "6ac7c2b8a861872a1e0c965493c08e49efceb29150001b949a93b815fb7b5326", func := "clockwall/clockwalllaw.MailOrder", spec := "mailOrder", unfollowed := true, recurses := true, apart := false, narrowed := true }
def MailOrderUptoSaid : Prop := mailOrderUptoRow.holds Try.pinned (OpenSpec.upto mailOrderSpec)

/-- 'clockwalllaw.CacheTells', WHERE WHAT IT READS IS OF BULK AT MOST 1048576: true; the input reads as it did. -/
def cacheTellsUptoRow : OpenClaim := { program := "ytinlmkhlgclbfaa", sum := "6ac7c2b8a861872a1e0c965493c08e49efceb29150001b949a93b815fb7b5326", func := "clockwall/clockwalllaw.CacheTells", spec := "cacheTells", unfollowed := true, recurses := true, apart := false, narrowed := true }
def CacheTellsUptoSaid : Prop := cacheTellsUptoRow.holds Try.pinned (OpenSpec.upto cacheTellsSpec)

/-- 'clockwalllaw.CacheCosts', WHERE WHAT IT READS IS OF BULK AT MOST 1048576: true; the input reads as it did. -/
def cacheCostsUptoRow : OpenClaim := { program := "ytinlmkhlgclbfaa", sum := "6ac7c2b8a861872a1e0c965493c08e49efceb29150001b949a93b815fb7b5326", func := "clockwall/clockwalllaw.CacheCosts", spec := "cacheCosts", unfollowed := true, recurses := true, apart := false, narrowed := true }
def CacheCostsUptoSaid : Prop := cacheCostsUptoRow.holds Try.pinned (OpenSpec.upto cacheCostsSpec)

/-- 'clockwalllaw.MailArrives', WHERE WHAT IT READS IS OF BULK AT MOST 1048576: true; the input reads as it did. -/
def mailArrivesUptoRow : OpenClaim := { program := "ytinlmkhlgclbfaa", sum := "6ac7c2b8a861872a1e0c965493c08e49efceb29150001b949a93b815fb7b5326", func := "clockwall/clockwalllaw.MailArrives", spec := "mailArrives", unfollowed := true, recurses := true, apart := false, narrowed := true }
def MailArrivesUptoSaid : Prop := mailArrivesUptoRow.holds Try.pinned (OpenSpec.upto mailArrivesSpec)

/-- 'clockwalllaw.ConfigTells', WHERE WHAT IT READS IS OF BULK AT MOST 1048576: true; the input reads as it did. -/
def configTellsUptoRow : OpenClaim := { program := "ytinlmkhlgclbfaa", sum := "6ac7c2b8a861872a1e0c965493c08e49efceb29150001b949a93b815fb7b5326", func := "clockwall/clockwalllaw.ConfigTells", spec := "configTells", unfollowed := true, recurses := true, apart := false, narrowed := true }
def ConfigTellsUptoSaid : Prop := configTellsUptoRow.holds Try.pinned (OpenSpec.upto configTellsSpec)

/-- 'clockwalllaw.ConfigDecodes', WHERE WHAT IT READS IS OF BULK AT MOST 1048576: true; the input reads as it did. -/
def configDecodesUptoRow : OpenClaim := { program := "ytinlmkhlgclbfaa", sum := "6ac7c2b8a861872a1e0c965493c08e49efceb29150001b949a93b815fb7b5326", func := "clockwall/clockwalllaw.ConfigDecodes", spec := "configDecodes", unfollowed := true, recurses := true, apart := false, narrowed := true }
def ConfigDecodesUptoSaid : Prop := configDecodesUptoRow.holds Try.pinned (OpenSpec.upto configDecodesSpec)

/-- 'clockwalllaw.ConfigBack', WHERE WHAT IT READS IS OF BULK AT MOST 1048576: true; the input reads as it did. -/
def configBackUptoRow : OpenClaim := { program := "ytinlmkhlgclbfaa", sum := "6ac7c2b8a861872a1e0c965493c08e49efceb29150001b949a93b815fb7b5326", func := "clockwall/clockwalllaw.ConfigBack", spec := "configBack", unfollowed := true, recurses := true, apart := false, narrowed := true }
def ConfigBackUptoSaid : Prop := configBackUptoRow.holds Try.pinned (OpenSpec.upto configBackSpec)

/-- 'clockwalllaw.ReadyTells', WHERE WHAT IT READS IS OF BULK AT MOST 1048576: true; the input reads as it did. -/
def readyTellsUptoRow : OpenClaim := { program := "ytinlmkhlgclbfaa", sum := "6ac7c2b8a861872a1e0c965493c08e49efceb29150001b949a93b815fb7b5326", func := "clockwall/clockwalllaw.ReadyTells", spec := "readyTells", unfollowed := true, recurses := true, apart := false, narrowed := true }
def ReadyTellsUptoSaid : Prop := readyTellsUptoRow.holds Try.pinned (OpenSpec.upto readyTellsSpec)

/-- 'clockwalllaw.ReadySteady', WHERE WHAT IT READS IS OF BULK AT MOST 1048576: true; the input reads as it did. -/
def readySteadyUptoRow : OpenClaim := { program := "ytinlmkhlgclbfaa", sum := "6ac7c2b8a861872a1e0c965493c08e49efceb29150001b949a93b815fb7b5326", func := "clockwall/clockwalllaw.ReadySteady", spec := "readySteady", unfollowed := true, recurses := true, apart := false, narrowed := true }
def ReadySteadyUptoSaid : Prop := readySteadyUptoRow.holds Try.pinned (OpenSpec.upto readySteadySpec)

end Rows
end Go.Proofs.Ytinlmkhlgclbfaa
