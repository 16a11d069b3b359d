/-
  Part 13 of the law StateChanges: some of its ways.
-/
import Derived.Test.YthdecegmnleljaaStateChanges0
namespace Go.Proofs.Ythdecegmnleljaa
open Go.SX
def stateChangesC13 : List (List Bool × PC) :=
  [([true], [((.eqI (.cell 0 (.cell 1000000 (.lit (0)) 18) 89) (.lit (2))), false), ((.cell 0 (.cell 1000000 (.lit (0)) 18) 36), false), ((.eqI (.cell 0 (.cell 1000000 (.lit (0)) 18) 89) (.lit (1))), false), ((.eqI (.cell 0 (.cell 1000000 (.lit (0)) 18) 46) (.lit (1))), false)])]
theorem stateChanges_part13 : stateChangesC13.all (leafGood cfg 3000 14 [34, 3]) = true := by kernel_rfl
end Go.Proofs.Ythdecegmnleljaa
