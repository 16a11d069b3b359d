/-
  Calls of values alone of the law IdentBridges, part 1.
-/
import Derived.Test.YtlpjldhkkjicgaaDoorIdentBridgesV
namespace Go.Proofs.YtlpjldhkkjicgaaDoor
open Go.SX
theorem identBridges_v0 : VMemo.ok cfgB 3000 identBridgesV0 = true := by kernel_rfl
theorem identBridges_v6 : VMemo.ok cfgB 3000 identBridgesV6 = true := by kernel_rfl
end Go.Proofs.YtlpjldhkkjicgaaDoor
