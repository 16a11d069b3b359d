/-
  Part 1 of the law EtherSpanning: some of its ways.
-/
import Derived.Test.YtemmnagphjaigaaEtherSpanning0
namespace Go.Proofs.Ytemmnagphjaigaa
open Go.SX
def etherSpanningL0 : List Bool × PC := ([true, true], [((.ltI (.lit (9223372036854775807)) (.var 1)), true)])
theorem etherSpanning_leaf0 : leafGood cfg 3000 4 [43, 32, 45] etherSpanningL0 = true := by kernel_rfl
theorem etherSpanning_ok0 : LeafOk Try.checked.prog 4 [43, 32, 45] etherSpanningL0 := leaf_of etherSpanning_leaf0
def etherSpanningL1 : List Bool × PC := ([true, true], [((.ltI (.var 1) (.lit (0))), true), ((.ltI (.lit (9223372036854775807)) (.var 1)), false)])
theorem etherSpanning_leaf1 : leafGood cfg 3000 4 [43, 32, 45] etherSpanningL1 = true := by kernel_rfl
theorem etherSpanning_ok1 : LeafOk Try.checked.prog 4 [43, 32, 45] etherSpanningL1 := leaf_of etherSpanning_leaf1
def etherSpanningL2 : List Bool × PC := ([true, true], [((.ltI (.lit (2000)) (.var 0)), true), ((.ltI (.var 1) (.lit (0))), false), ((.ltI (.lit (9223372036854775807)) (.var 1)), false)])
theorem etherSpanning_leaf2 : leafGood cfg 3000 4 [43, 32, 45] etherSpanningL2 = true := by kernel_rfl
theorem etherSpanning_ok2 : LeafOk Try.checked.prog 4 [43, 32, 45] etherSpanningL2 := leaf_of etherSpanning_leaf2
def etherSpanningL3 : List Bool × PC := ([true, true], [((.ltI (.lit (2000)) (.var 1)), true), ((.ltI (.lit (2000)) (.var 0)), false), ((.ltI (.var 1) (.lit (0))), false), ((.ltI (.lit (9223372036854775807)) (.var 1)), false)])
theorem etherSpanning_leaf3 : leafGood cfg 3000 4 [43, 32, 45] etherSpanningL3 = true := by kernel_rfl
theorem etherSpanning_ok3 : LeafOk Try.checked.prog 4 [43, 32, 45] etherSpanningL3 := leaf_of etherSpanning_leaf3
def etherSpanningL5 : List Bool × PC := ([true, true], [((.eqI (.var 0) (.lit (0))), false), ((.ltI (.lit (2000)) (.var 1)), false), ((.ltI (.lit (2000)) (.var 0)), false), ((.ltI (.var 1) (.lit (0))), false), ((.ltI (.lit (9223372036854775807)) (.var 1)), false)])
theorem etherSpanning_leaf5 : leafGood cfg 3000 4 [43, 32, 45] etherSpanningL5 = true := by kernel_rfl
theorem etherSpanning_ok5 : LeafOk Try.checked.prog 4 [43, 32, 45] etherSpanningL5 := leaf_of etherSpanning_leaf5
end Go.Proofs.Ytemmnagphjaigaa
