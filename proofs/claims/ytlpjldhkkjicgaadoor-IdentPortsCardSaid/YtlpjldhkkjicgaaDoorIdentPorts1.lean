/-
  Part 1 of the law IdentPorts: some of its ways.
-/
import Derived.Test.YtlpjldhkkjicgaaDoorIdentPorts0
namespace Go.Proofs.YtlpjldhkkjicgaaDoor
open Go.SX
def identPortsL0 : List Bool × PC := ([], [])
theorem identPorts_leaf0 : leafGoodG cfg tabs 3000 3 [3, 3, 22] identPortsL0 = true := by kernel_rfl
theorem identPorts_ok0 : LeafOkG Tryd.checked.prog tabs 3 [3, 3, 22] identPortsL0 := leaf_of identPorts_leaf0
end Go.Proofs.YtlpjldhkkjicgaaDoor
