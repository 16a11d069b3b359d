/-
  Part 1 of the law TransmitSteps: some of its ways.
-/
import Derived.Test.YthdecegmnleljaaTransmitSteps0
namespace Go.Proofs.Ythdecegmnleljaa
open Go.SX
def transmitStepsL1 : List Bool × PC := ([true], [((.eqI (.var 0) (.lit (0))), true), ((.ltI (.lit (20)) (.var 0)), false)])
theorem transmitSteps_leaf1 : leafGood cfg 3000 10 [34, 3] transmitStepsL1 = true := by kernel_rfl
theorem transmitSteps_ok1 : LeafOk Try.checked.prog 10 [34, 3] transmitStepsL1 := leaf_of transmitSteps_leaf1
def transmitStepsL4 : List Bool × PC := ([true], [((qB 40), true), ((.ltI (qT 14) (.cell 1000000 (.lit (0)) 5)), true), ((qB 24), true), ((.eqI (qT 62) (.lit (0))), true), ((.eqI (qT 8) (.lit (0))), true), ((.eqI (qT 85) (.lit (0))), true), ((qB 2), true), ((qB 43), false), ((qB 39), true), ((.ltI (.cell 1000000 (.lit (0)) 18) (.lit (0))), false), ((.ltI (.cell 1000000 (.lit (0)) 18) (.var 0)), true), ((.eqI (.var 0) (.lit (0))), false), ((.ltI (.lit (20)) (.var 0)), false)])
theorem transmitSteps_leaf4 : leafGood cfg 3000 10 [34, 3] transmitStepsL4 = true := by kernel_rfl
theorem transmitSteps_ok4 : LeafOk Try.checked.prog 10 [34, 3] transmitStepsL4 := leaf_of transmitSteps_leaf4
def transmitStepsL19 : List Bool × PC := ([true], [((qB 39), false), ((.ltI (.cell 1000000 (.lit (0)) 18) (.lit (0))), false), ((.ltI (.cell 1000000 (.lit (0)) 18) (.var 0)), true), ((.eqI (.var 0) (.lit (0))), false), ((.ltI (.lit (20)) (.var 0)), false)])
theorem transmitSteps_leaf19 : leafGood cfg 3000 10 [34, 3] transmitStepsL19 = true := by kernel_rfl
theorem transmitSteps_ok19 : LeafOk Try.checked.prog 10 [34, 3] transmitStepsL19 := leaf_of transmitSteps_leaf19
def transmitStepsL21 : List Bool × PC := ([false], [])
theorem transmitSteps_leaf21 : leafGood cfg 3000 10 [34, 3] transmitStepsL21 = true := by kernel_rfl
theorem transmitSteps_ok21 : LeafOk Try.checked.prog 10 [34, 3] transmitStepsL21 := leaf_of transmitSteps_leaf21
end Go.Proofs.Ythdecegmnleljaa
