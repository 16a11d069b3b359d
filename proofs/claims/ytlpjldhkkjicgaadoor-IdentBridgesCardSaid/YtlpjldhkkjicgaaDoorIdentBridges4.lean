/-
  Part 4 of the law IdentBridges: some of its ways.
-/
import Derived.Test.YtlpjldhkkjicgaaDoorIdentBridges0
namespace Go.Proofs.YtlpjldhkkjicgaaDoor
open Go.SX
def identBridgesL5 : List Bool × PC := ([], [((.ltI (.wrap .u64 (.cell 1000000 (.lit (0)) 7)) (.lit (72057594037927936))), true), ((.ltI (.wrap .u64 (.cell 1000000 (.lit (0)) 7)) (.lit (4503599627370496))), false), ((.ltI (.lit (61440)) (.cell 1000000 (.lit (0)) 0)), true), ((.ltI (.cell 1000000 (.lit (0)) 0) (.lit (0))), false)])
theorem identBridges_leaf5 : leafGoodG cfg tabs 3000 5 [3, 39, 30] identBridgesL5 = true := by kernel_rfl
theorem identBridges_ok5 : LeafOkG Tryd.checked.prog tabs 5 [3, 39, 30] identBridgesL5 := leaf_of identBridges_leaf5
def identBridgesL9 : List Bool × PC := ([], [((.ltI (.wrap .u64 (.cell 1000000 (.lit (0)) 7)) (.lit (72057594037927936))), true), ((.ltI (.wrap .u64 (.cell 1000000 (.lit (0)) 7)) (.lit (4503599627370496))), false), ((.eqI (.bin .rem (.wrap .u16 (.cell 1000000 (.lit (0)) 0)) (.lit (4096))) (.lit (0))), true), ((.ltI (.lit (61440)) (.cell 1000000 (.lit (0)) 0)), false), ((.ltI (.cell 1000000 (.lit (0)) 0) (.lit (0))), false)])
theorem identBridges_leaf9 : leafGoodG cfg tabs 3000 5 [3, 39, 30] identBridgesL9 = true := by kernel_rfl
theorem identBridges_ok9 : LeafOkG Tryd.checked.prog tabs 5 [3, 39, 30] identBridgesL9 := leaf_of identBridges_leaf9
end Go.Proofs.YtlpjldhkkjicgaaDoor
