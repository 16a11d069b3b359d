/-
  Part 2 of the law TransmitSteps: some of its ways.
-/
import Derived.Test.YthdecegmnleljaaTransmitSteps0
namespace Go.Proofs.Ythdecegmnleljaa
open Go.SX
def transmitStepsL2 : List Bool × PC := ([true], [((.ltI (.cell 1000000 (.lit (0)) 18) (.lit (0))), true), ((.ltI (.cell 1000000 (.lit (0)) 18) (.var 0)), true), ((.eqI (.var 0) (.lit (0))), false), ((.ltI (.lit (20)) (.var 0)), false)])
theorem transmitSteps_leaf2 : leafGood cfg 3000 10 [34, 3] transmitStepsL2 = true := by kernel_rfl
theorem transmitSteps_ok2 : LeafOk Try.checked.prog 10 [34, 3] transmitStepsL2 := leaf_of transmitSteps_leaf2
def transmitStepsL11 : List Bool × PC := ([true], [((qB 40), true), ((.ltI (qT 14) (.cell 1000000 (.lit (0)) 5)), true), ((qB 24), true), ((.eqI (qT 8) (.lit (0))), false), ((.eqI (qT 85) (.lit (0))), true), ((qB 2), true), ((qB 43), false), ((qB 39), true), ((.ltI (.cell 1000000 (.lit (0)) 18) (.lit (0))), false), ((.ltI (.cell 1000000 (.lit (0)) 18) (.var 0)), true), ((.eqI (.var 0) (.lit (0))), false), ((.ltI (.lit (20)) (.var 0)), false)])
theorem transmitSteps_leaf11 : leafGood cfg 3000 10 [34, 3] transmitStepsL11 = true := by kernel_rfl
theorem transmitSteps_ok11 : LeafOk Try.checked.prog 10 [34, 3] transmitStepsL11 := leaf_of transmitSteps_leaf11
def transmitStepsL17 : List Bool × PC := ([true], [((.eqI (qT 85) (.lit (0))), false), ((qB 2), true), ((qB 43), false), ((qB 39), true), ((.ltI (.cell 1000000 (.lit (0)) 18) (.lit (0))), false), ((.ltI (.cell 1000000 (.lit (0)) 18) (.var 0)), true), ((.eqI (.var 0) (.lit (0))), false), ((.ltI (.lit (20)) (.var 0)), false)])
theorem transmitSteps_leaf17 : leafGood cfg 3000 10 [34, 3] transmitStepsL17 = true := by kernel_rfl
theorem transmitSteps_ok17 : LeafOk Try.checked.prog 10 [34, 3] transmitStepsL17 := leaf_of transmitSteps_leaf17
end Go.Proofs.Ythdecegmnleljaa
