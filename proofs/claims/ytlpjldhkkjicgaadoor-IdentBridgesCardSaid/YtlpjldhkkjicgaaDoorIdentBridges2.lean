/-
  Part 2 of the law IdentBridges: some of its ways.
-/
import Derived.Test.YtlpjldhkkjicgaaDoorIdentBridges0
namespace Go.Proofs.YtlpjldhkkjicgaaDoor
open Go.SX
def identBridgesL4 : List Bool × PC := ([], [((.ltI (.wrap .u64 (.cell 1000000 (.lit (0)) 7)) (.lit (4503599627370496))), true), ((.ltI (.lit (61440)) (.cell 1000000 (.lit (0)) 0)), true), ((.ltI (.cell 1000000 (.lit (0)) 0) (.lit (0))), false)])
theorem identBridges_leaf4 : leafGoodG cfg tabs 3000 5 [3, 39, 30] identBridgesL4 = true := by kernel_rfl
theorem identBridges_ok4 : LeafOkG Tryd.checked.prog tabs 5 [3, 39, 30] identBridgesL4 := leaf_of identBridges_leaf4
def identBridgesL10 : List Bool × PC := ([], [((.ltI (.wrap .u64 (.cell 1000000 (.lit (0)) 7)) (.lit (1152921504606846976))), true), ((.ltI (.wrap .u64 (.cell 1000000 (.lit (0)) 7)) (.lit (72057594037927936))), false), ((.ltI (.wrap .u64 (.cell 1000000 (.lit (0)) 7)) (.lit (4503599627370496))), false), ((.eqI (.bin .rem (.wrap .u16 (.cell 1000000 (.lit (0)) 0)) (.lit (4096))) (.lit (0))), true), ((.ltI (.lit (61440)) (.cell 1000000 (.lit (0)) 0)), false), ((.ltI (.cell 1000000 (.lit (0)) 0) (.lit (0))), false)])
theorem identBridges_leaf10 : leafGoodG cfg tabs 3000 5 [3, 39, 30] identBridgesL10 = true := by kernel_rfl
theorem identBridges_ok10 : LeafOkG Tryd.checked.prog tabs 5 [3, 39, 30] identBridgesL10 := leaf_of identBridges_leaf10
end Go.Proofs.YtlpjldhkkjicgaaDoor
