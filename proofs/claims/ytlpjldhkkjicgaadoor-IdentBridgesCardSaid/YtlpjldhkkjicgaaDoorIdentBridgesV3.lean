/-
  Calls of values alone of the law IdentBridges, part 3.
-/
import Derived.Test.YtlpjldhkkjicgaaDoorIdentBridgesV
namespace Go.Proofs.YtlpjldhkkjicgaaDoor
open Go.SX
theorem identBridges_v2 : VMemo.ok cfgB 3000 identBridgesV2 = true := by kernel_rfl
theorem identBridges_v8 : VMemo.ok cfgB 3000 identBridgesV8 = true := by kernel_rfl
end Go.Proofs.YtlpjldhkkjicgaaDoor
