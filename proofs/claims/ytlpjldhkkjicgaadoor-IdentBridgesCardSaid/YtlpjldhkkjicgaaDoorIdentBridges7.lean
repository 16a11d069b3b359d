/-
  Part 7 of the law IdentBridges: some of its ways.
-/
import Derived.Test.YtlpjldhkkjicgaaDoorIdentBridges0
namespace Go.Proofs.YtlpjldhkkjicgaaDoor
open Go.SX
def identBridgesL3 : List Bool × PC := ([], [((.ltI (.wrap .u64 (.cell 1000000 (.lit (0)) 7)) (.lit (1152921504606846976))), false), ((.ltI (.wrap .u64 (.cell 1000000 (.lit (0)) 7)) (.lit (72057594037927936))), false), ((.ltI (.wrap .u64 (.cell 1000000 (.lit (0)) 7)) (.lit (4503599627370496))), false), ((.ltI (.cell 1000000 (.lit (0)) 0) (.lit (0))), true)])
theorem identBridges_leaf3 : leafGoodG cfg tabs 3000 5 [3, 39, 30] identBridgesL3 = true := by kernel_rfl
theorem identBridges_ok3 : LeafOkG Tryd.checked.prog tabs 5 [3, 39, 30] identBridgesL3 := leaf_of identBridges_leaf3
def identBridgesL8 : List Bool × PC := ([], [((.ltI (.wrap .u64 (.cell 1000000 (.lit (0)) 7)) (.lit (4503599627370496))), true), ((.eqI (.bin .rem (.wrap .u16 (.cell 1000000 (.lit (0)) 0)) (.lit (4096))) (.lit (0))), true), ((.ltI (.lit (61440)) (.cell 1000000 (.lit (0)) 0)), false), ((.ltI (.cell 1000000 (.lit (0)) 0) (.lit (0))), false)])
theorem identBridges_leaf8 : leafGoodG cfg tabs 3000 5 [3, 39, 30] identBridgesL8 = true := by kernel_rfl
theorem identBridges_ok8 : LeafOkG Tryd.checked.prog tabs 5 [3, 39, 30] identBridgesL8 := leaf_of identBridges_leaf8
end Go.Proofs.YtlpjldhkkjicgaaDoor
