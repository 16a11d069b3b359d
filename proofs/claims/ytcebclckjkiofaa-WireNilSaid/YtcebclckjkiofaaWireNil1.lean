/-
  Part 1 of the law WireNil: some of its ways.
-/
import Derived.Test.YtcebclckjkiofaaWireNil0
namespace Go.Proofs.Ytcebclckjkiofaa
open Go.SX
def wireNilL0 : List Bool × PC := ([], [])
theorem wireNil_leaf0 : leafGood cfg 3000 6 [50, 9] wireNilL0 = true := by kernel_rfl
theorem wireNil_ok0 : LeafOk Try.checked.prog 6 [50, 9] wireNilL0 := leaf_of wireNil_leaf0
end Go.Proofs.Ytcebclckjkiofaa
