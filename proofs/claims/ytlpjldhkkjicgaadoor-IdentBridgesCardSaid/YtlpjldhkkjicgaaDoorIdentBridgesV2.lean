/-
  Calls of values alone of the law IdentBridges, part 2.
-/
import Derived.Test.YtlpjldhkkjicgaaDoorIdentBridgesV
namespace Go.Proofs.YtlpjldhkkjicgaaDoor
open Go.SX
theorem identBridges_v1 : VMemo.ok cfgB 3000 identBridgesV1 = true := by kernel_rfl
theorem identBridges_v7 : VMemo.ok cfgB 3000 identBridgesV7 = true := by kernel_rfl
end Go.Proofs.YtlpjldhkkjicgaaDoor
