/-
  Part 1 of the law FdbNil: some of its ways.
-/
import Derived.Test.YtlpjldhkkjicgaaFdbNil0
namespace Go.Proofs.Ytlpjldhkkjicgaa
open Go.SX
def fdbNilL0 : List Bool × PC := ([], [])
theorem fdbNil_leaf0 : leafGood cfg 3000 3 [23, 3] fdbNilL0 = true := by kernel_rfl
theorem fdbNil_ok0 : LeafOk Try.checked.prog 3 [23, 3] fdbNilL0 := leaf_of fdbNil_leaf0
end Go.Proofs.Ytlpjldhkkjicgaa
