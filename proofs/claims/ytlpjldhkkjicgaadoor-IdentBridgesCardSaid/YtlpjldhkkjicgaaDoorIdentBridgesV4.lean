/-
  Calls of values alone of the law IdentBridges, part 4.
-/
import Derived.Test.YtlpjldhkkjicgaaDoorIdentBridgesV
namespace Go.Proofs.YtlpjldhkkjicgaaDoor
open Go.SX
theorem identBridges_v3 : VMemo.ok cfgB 3000 identBridgesV3 = true := by kernel_rfl
theorem identBridges_v9 : VMemo.ok cfgB 3000 identBridgesV9 = true := by kernel_rfl
end Go.Proofs.YtlpjldhkkjicgaaDoor
