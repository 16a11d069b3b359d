/-
  Part 8 of the law IdentBridges: some of its ways.
-/
import Derived.Test.YtlpjldhkkjicgaaDoorIdentBridges0
namespace Go.Proofs.YtlpjldhkkjicgaaDoor
open Go.SX
def identBridgesL2 : List Bool × PC := ([], [((.ltI (.wrap .u64 (.cell 1000000 (.lit (0)) 7)) (.lit (1152921504606846976))), true), ((.ltI (.wrap .u64 (.cell 1000000 (.lit (0)) 7)) (.lit (72057594037927936))), false), ((.ltI (.wrap .u64 (.cell 1000000 (.lit (0)) 7)) (.lit (4503599627370496))), false), ((.ltI (.cell 1000000 (.lit (0)) 0) (.lit (0))), true)])
theorem identBridges_leaf2 : leafGoodG cfg tabs 3000 5 [3, 39, 30] identBridgesL2 = true := by kernel_rfl
theorem identBridges_ok2 : LeafOkG Tryd.checked.prog tabs 5 [3, 39, 30] identBridgesL2 := leaf_of identBridges_leaf2
def identBridgesL7 : List Bool × PC := ([], [((.ltI (.wrap .u64 (.cell 1000000 (.lit (0)) 7)) (.lit (1152921504606846976))), false), ((.ltI (.wrap .u64 (.cell 1000000 (.lit (0)) 7)) (.lit (72057594037927936))), false), ((.ltI (.wrap .u64 (.cell 1000000 (.lit (0)) 7)) (.lit (4503599627370496))), false), ((.ltI (.lit (61440)) (.cell 1000000 (.lit (0)) 0)), true), ((.ltI (.cell 1000000 (.lit (0)) 0) (.lit (0))), false)])
theorem identBridges_leaf7 : leafGoodG cfg tabs 3000 5 [3, 39, 30] identBridgesL7 = true := by kernel_rfl
theorem identBridges_ok7 : LeafOkG Tryd.checked.prog tabs 5 [3, 39, 30] identBridgesL7 := leaf_of identBridges_leaf7
end Go.Proofs.YtlpjldhkkjicgaaDoor
