/-
  Part 1 of the law OctetPanics: some of its ways.
-/
import Derived.Test.YtpkfeinnhdnfiaaOctetPanics0
namespace Go.Proofs.Ytpkfeinnhdnfiaa
open Go.SX
def octetPanicsL0 : List Bool × PC := ([true], [])
theorem octetPanics_leaf0 : leafGood cfg 3000 4 [3, 28] octetPanicsL0 = true := by kernel_rfl
theorem octetPanics_ok0 : LeafOk Try.checked.prog 4 [3, 28] octetPanicsL0 := leaf_of octetPanics_leaf0
def octetPanicsL1 : List Bool × PC := ([false], [])
theorem octetPanics_leaf1 : leafGood cfg 3000 4 [3, 28] octetPanicsL1 = true := by kernel_rfl
theorem octetPanics_ok1 : LeafOk Try.checked.prog 4 [3, 28] octetPanicsL1 := leaf_of octetPanics_leaf1
end Go.Proofs.Ytpkfeinnhdnfiaa
