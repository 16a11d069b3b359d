/-
  Part 14 of the law StateChanges: some of its ways.
-/
import Derived.Test.YthdecegmnleljaaStateChanges0
namespace Go.Proofs.Ythdecegmnleljaa
open Go.SX
def stateChangesC14 : List (List Bool × PC) :=
  [([false], [])]
theorem stateChanges_part14 : stateChangesC14.all (leafGood cfg 3000 14 [34, 3]) = true := by kernel_rfl
end Go.Proofs.Ythdecegmnleljaa
