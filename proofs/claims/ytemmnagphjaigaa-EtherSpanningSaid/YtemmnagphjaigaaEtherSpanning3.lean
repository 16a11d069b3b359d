/-
  Part 3 of the law EtherSpanning: some of its ways.
-/
import Derived.Test.YtemmnagphjaigaaEtherSpanning0
namespace Go.Proofs.Ytemmnagphjaigaa
open Go.SX
def etherSpanningL6 : List Bool × PC := ([false, true], [])
theorem etherSpanning_leaf6 : leafGood cfg 3000 4 [43, 32, 45] etherSpanningL6 = true := by kernel_rfl
theorem etherSpanning_ok6 : LeafOk Try.checked.prog 4 [43, 32, 45] etherSpanningL6 := leaf_of etherSpanning_leaf6
def etherSpanningL7 : List Bool × PC := ([true, false], [])
theorem etherSpanning_leaf7 : leafGood cfg 3000 4 [43, 32, 45] etherSpanningL7 = true := by kernel_rfl
theorem etherSpanning_ok7 : LeafOk Try.checked.prog 4 [43, 32, 45] etherSpanningL7 := leaf_of etherSpanning_leaf7
end Go.Proofs.Ytemmnagphjaigaa
