/-
  Part 1 of the law TransStarts: some of its ways.
-/
import Derived.Test.YtllkjhnmjhpbnaaTransStarts0
namespace Go.Proofs.Ytllkjhnmjhpbnaa
open Go.SX
def transStartsC1 : List (List Bool × PC) :=
  [([true], []),
   ([false], [])]
theorem transStarts_part1 : transStartsC1.all (leafGood cfg 3000 6 [34, 3]) = true := by kernel_rfl
end Go.Proofs.Ytllkjhnmjhpbnaa
