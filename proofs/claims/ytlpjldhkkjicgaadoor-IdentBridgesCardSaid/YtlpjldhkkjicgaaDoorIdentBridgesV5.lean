/-
  Calls of values alone of the law IdentBridges, part 5.
-/
import Derived.Test.YtlpjldhkkjicgaaDoorIdentBridgesV
namespace Go.Proofs.YtlpjldhkkjicgaaDoor
open Go.SX
theorem identBridges_v4 : VMemo.ok cfgB 3000 identBridgesV4 = true := by kernel_rfl
theorem identBridges_v10 : VMemo.ok cfgB 3000 identBridgesV10 = true := by kernel_rfl
end Go.Proofs.YtlpjldhkkjicgaaDoor
