/-
  Part 4 of the law InfoStarts: some of its ways.
-/
import Derived.Test.YtllkjhnmjhpbnaaInfoStarts0
namespace Go.Proofs.Ytllkjhnmjhpbnaa
open Go.SX
def infoStartsC4 : List (List Bool × PC) :=
  [([false], [((.ltI (.cell 1000000 (.lit (0)) 18) (.lit (0))), false)])]
theorem infoStarts_part4 : infoStartsC4.all (leafGood cfg 3000 11 [34, 3]) = true := by kernel_rfl
end Go.Proofs.Ytllkjhnmjhpbnaa
