/-
  Part 2 of the law EtherSpanning: some of its ways.
-/
import Derived.Test.YtemmnagphjaigaaEtherSpanning0
namespace Go.Proofs.Ytemmnagphjaigaa
open Go.SX
def etherSpanningL4 : List Bool × PC := ([true, true], [((.eqI (.var 0) (.lit (0))), true), ((.ltI (.lit (2000)) (.var 1)), false), ((.ltI (.lit (2000)) (.var 0)), false), ((.ltI (.var 1) (.lit (0))), false), ((.ltI (.lit (9223372036854775807)) (.var 1)), false)])
theorem etherSpanning_leaf4 : leafGood cfg 3000 4 [43, 32, 45] etherSpanningL4 = true := by kernel_rfl
theorem etherSpanning_ok4 : LeafOk Try.checked.prog 4 [43, 32, 45] etherSpanningL4 := leaf_of etherSpanning_leaf4
def etherSpanningL8 : List Bool × PC := ([false, false], [])
theorem etherSpanning_leaf8 : leafGood cfg 3000 4 [43, 32, 45] etherSpanningL8 = true := by kernel_rfl
theorem etherSpanning_ok8 : LeafOk Try.checked.prog 4 [43, 32, 45] etherSpanningL8 := leaf_of etherSpanning_leaf8
end Go.Proofs.Ytemmnagphjaigaa
