/-
  Part 8 of the law StateChanges: some of its ways.
-/
import Derived.Test.YthdecegmnleljaaStateChanges0
namespace Go.Proofs.Ythdecegmnleljaa
open Go.SX
def stateChangesC8 : List (List Bool × PC) :=
  [([true], [((.cell 0 (.cell 1000000 (.lit (0)) 18) 34), false), ((.eqI (.cell 0 (.cell 1000000 (.lit (0)) 18) 46) (.lit (2))), true), ((.eqI (.cell 0 (.cell 1000000 (.lit (0)) 18) 89) (.lit (1))), true), ((.eqI (.cell 0 (.cell 1000000 (.lit (0)) 18) 46) (.lit (1))), false)])]
theorem stateChanges_part8 : stateChangesC8.all (leafGood cfg 3000 14 [34, 3]) = true := by kernel_rfl
end Go.Proofs.Ythdecegmnleljaa
