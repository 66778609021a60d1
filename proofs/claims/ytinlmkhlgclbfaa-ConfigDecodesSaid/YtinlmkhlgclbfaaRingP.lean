/-
  RingP: rings as plain data: what Check must say. No program in sight.
-/
import Derived.Test.YtinlmkhlgclbfaaData
namespace Go.Proofs.Ytinlmkhlgclbfaa
open Go.RowKit

def badValue (n : Int) : Bool := !inB 0 n 255
def areValues (vs : List Int) : Bool := !anyI vs.length fun j => badValue (nth vs j)
/-- C1: Check of a ring -/
def checkRing (vs : List Int) (lost size : Int) : Int :=
  if !inB 1 size 4 then 3 else if size < vs.length then 2 else if !areValues vs || !inB 0 lost 100000 then 3 else 0
end Go.Proofs.Ytinlmkhlgclbfaa
