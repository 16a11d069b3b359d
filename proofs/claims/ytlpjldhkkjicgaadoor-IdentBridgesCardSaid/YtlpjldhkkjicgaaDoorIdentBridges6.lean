/-
  Part 6 of the law IdentBridges: some of its ways.
-/
import Derived.Test.YtlpjldhkkjicgaaDoorIdentBridges0
namespace Go.Proofs.YtlpjldhkkjicgaaDoor
open Go.SX
def identBridgesL13 : List Bool × PC := ([], [((.ltI (.wrap .u64 (.cell 1000000 (.lit (0)) 7)) (.lit (72057594037927936))), true), ((.ltI (.wrap .u64 (.cell 1000000 (.lit (0)) 7)) (.lit (4503599627370496))), false), ((.eqI (.bin .rem (.wrap .u16 (.cell 1000000 (.lit (0)) 0)) (.lit (4096))) (.lit (0))), false), ((.ltI (.lit (61440)) (.cell 1000000 (.lit (0)) 0)), false), ((.ltI (.cell 1000000 (.lit (0)) 0) (.lit (0))), false)])
theorem identBridges_leaf13 : leafGoodG cfg tabs 3000 5 [3, 39, 30] identBridgesL13 = true := by kernel_rfl
theorem identBridges_ok13 : LeafOkG Tryd.checked.prog tabs 5 [3, 39, 30] identBridgesL13 := leaf_of identBridges_leaf13
def identBridgesL14 : List Bool × PC := ([], [((.ltI (.wrap .u64 (.cell 1000000 (.lit (0)) 7)) (.lit (1152921504606846976))), true), ((.ltI (.wrap .u64 (.cell 1000000 (.lit (0)) 7)) (.lit (72057594037927936))), false), ((.ltI (.wrap .u64 (.cell 1000000 (.lit (0)) 7)) (.lit (4503599627370496))), false), ((.eqI (.bin .rem (.wrap .u16 (.cell 1000000 (.lit (0)) 0)) (.lit (4096))) (.lit (0))), false), ((.ltI (.lit (61440)) (.cell 1000000 (.lit (0)) 0)), false), ((.ltI (.cell 1000000 (.lit (0)) 0) (.lit (0))), false)])
theorem identBridges_leaf14 : leafGoodG cfg tabs 3000 5 [3, 39, 30] identBridgesL14 = true := by kernel_rfl
theorem identBridges_ok14 : LeafOkG Tryd.checked.prog tabs 5 [3, 39, 30] identBridgesL14 := leaf_of identBridges_leaf14
end Go.Proofs.YtlpjldhkkjicgaaDoor
