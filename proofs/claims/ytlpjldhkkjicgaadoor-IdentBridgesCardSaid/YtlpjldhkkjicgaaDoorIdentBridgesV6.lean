/-
  Calls of values alone of the law IdentBridges, part 6.
-/
import Derived.Test.YtlpjldhkkjicgaaDoorIdentBridgesV
namespace Go.Proofs.YtlpjldhkkjicgaaDoor
open Go.SX
theorem identBridges_v5 : VMemo.ok cfgB 3000 identBridgesV5 = true := by kernel_rfl
theorem identBridges_v11 : VMemo.ok cfgB 3000 identBridgesV11 = true := by kernel_rfl
end Go.Proofs.YtlpjldhkkjicgaaDoor
