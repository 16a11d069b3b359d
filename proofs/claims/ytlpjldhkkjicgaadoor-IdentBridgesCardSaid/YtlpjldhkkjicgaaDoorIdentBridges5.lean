/-
  Part 5 of the law IdentBridges: some of its ways.
-/
import Derived.Test.YtlpjldhkkjicgaaDoorIdentBridges0
namespace Go.Proofs.YtlpjldhkkjicgaaDoor
open Go.SX
def identBridgesL1 : List Bool × PC := ([], [((.ltI (.wrap .u64 (.cell 1000000 (.lit (0)) 7)) (.lit (72057594037927936))), true), ((.ltI (.wrap .u64 (.cell 1000000 (.lit (0)) 7)) (.lit (4503599627370496))), false), ((.ltI (.cell 1000000 (.lit (0)) 0) (.lit (0))), true)])
theorem identBridges_leaf1 : leafGoodG cfg tabs 3000 5 [3, 39, 30] identBridgesL1 = true := by kernel_rfl
theorem identBridges_ok1 : LeafOkG Tryd.checked.prog tabs 5 [3, 39, 30] identBridgesL1 := leaf_of identBridges_leaf1
def identBridgesL15 : List Bool × PC := ([], [((.ltI (.wrap .u64 (.cell 1000000 (.lit (0)) 7)) (.lit (1152921504606846976))), false), ((.ltI (.wrap .u64 (.cell 1000000 (.lit (0)) 7)) (.lit (72057594037927936))), false), ((.ltI (.wrap .u64 (.cell 1000000 (.lit (0)) 7)) (.lit (4503599627370496))), false), ((.eqI (.bin .rem (.wrap .u16 (.cell 1000000 (.lit (0)) 0)) (.lit (4096))) (.lit (0))), false), ((.ltI (.lit (61440)) (.cell 1000000 (.lit (0)) 0)), false), ((.ltI (.cell 1000000 (.lit (0)) 0) (.lit (0))), false)])
theorem identBridges_leaf15 : leafGoodG cfg tabs 3000 5 [3, 39, 30] identBridgesL15 = true := by kernel_rfl
theorem identBridges_ok15 : LeafOkG Tryd.checked.prog tabs 5 [3, 39, 30] identBridgesL15 := leaf_of identBridges_leaf15
end Go.Proofs.YtlpjldhkkjicgaaDoor
