/-
  Part 3 of the law InfoStarts: some of its ways.
-/
import Derived.Test.YtllkjhnmjhpbnaaInfoStarts0
namespace Go.Proofs.Ytllkjhnmjhpbnaa
open Go.SX
def infoStartsC3 : List (List Bool × PC) :=
  [([true], [((.ltI (.cell 1000000 (.lit (0)) 18) (.var 0)), false), ((.eqI (.var 0) (.lit (0))), false), ((.ltI (.cell 1000000 (.lit (0)) 18) (.lit (0))), false)]),
   ([false], [((.ltI (.cell 1000000 (.lit (0)) 18) (.lit (0))), true)])]
theorem infoStarts_part3 : infoStartsC3.all (leafGood cfg 3000 11 [34, 3]) = true := by kernel_rfl
end Go.Proofs.Ytllkjhnmjhpbnaa
