/-
  Part 4 of the law TransmitSteps: some of its ways.
-/
import Derived.Test.YthdecegmnleljaaTransmitSteps0
namespace Go.Proofs.Ythdecegmnleljaa
open Go.SX
def transmitStepsL3 : List Bool × PC := ([true], [((qB 43), true), ((qB 39), true), ((.ltI (.cell 1000000 (.lit (0)) 18) (.lit (0))), false), ((.ltI (.cell 1000000 (.lit (0)) 18) (.var 0)), true), ((.eqI (.var 0) (.lit (0))), false), ((.ltI (.lit (20)) (.var 0)), false)])
theorem transmitSteps_leaf3 : leafGood cfg 3000 10 [34, 3] transmitStepsL3 = true := by kernel_rfl
theorem transmitSteps_ok3 : LeafOk Try.checked.prog 10 [34, 3] transmitStepsL3 := leaf_of transmitSteps_leaf3
def transmitStepsL6 : List Bool × PC := ([true], [((.eqI (qT 46) (.lit (1))), true), ((.eqI (qT 46) (.lit (2))), false), ((qB 40), false), ((.ltI (qT 14) (.cell 1000000 (.lit (0)) 5)), true), ((qB 24), true), ((.eqI (qT 62) (.lit (0))), true), ((.eqI (qT 8) (.lit (0))), true), ((.eqI (qT 85) (.lit (0))), true), ((qB 2), true), ((qB 43), false), ((qB 39), true), ((.ltI (.cell 1000000 (.lit (0)) 18) (.lit (0))), false), ((.ltI (.cell 1000000 (.lit (0)) 18) (.var 0)), true), ((.eqI (.var 0) (.lit (0))), false), ((.ltI (.lit (20)) (.var 0)), false)])
theorem transmitSteps_leaf6 : leafGood cfg 3000 10 [34, 3] transmitStepsL6 = true := by kernel_rfl
theorem transmitSteps_ok6 : LeafOk Try.checked.prog 10 [34, 3] transmitStepsL6 := leaf_of transmitSteps_leaf6
def transmitStepsL8 : List Bool × PC := ([true], [((.ltI (qT 14) (.cell 1000000 (.lit (0)) 5)), false), ((qB 24), true), ((.eqI (qT 62) (.lit (0))), true), ((.eqI (qT 8) (.lit (0))), true), ((.eqI (qT 85) (.lit (0))), true), ((qB 2), true), ((qB 43), false), ((qB 39), true), ((.ltI (.cell 1000000 (.lit (0)) 18) (.lit (0))), false), ((.ltI (.cell 1000000 (.lit (0)) 18) (.var 0)), true), ((.eqI (.var 0) (.lit (0))), false), ((.ltI (.lit (20)) (.var 0)), false)])
theorem transmitSteps_leaf8 : leafGood cfg 3000 10 [34, 3] transmitStepsL8 = true := by kernel_rfl
theorem transmitSteps_ok8 : LeafOk Try.checked.prog 10 [34, 3] transmitStepsL8 := leaf_of transmitSteps_leaf8
def transmitStepsL12 : List Bool × PC := ([true], [((.eqI (qT 46) (.lit (2))), true), ((qB 40), false), ((.ltI (qT 14) (.cell 1000000 (.lit (0)) 5)), true), ((qB 24), true), ((.eqI (qT 8) (.lit (0))), false), ((.eqI (qT 85) (.lit (0))), true), ((qB 2), true), ((qB 43), false), ((qB 39), true), ((.ltI (.cell 1000000 (.lit (0)) 18) (.lit (0))), false), ((.ltI (.cell 1000000 (.lit (0)) 18) (.var 0)), true), ((.eqI (.var 0) (.lit (0))), false), ((.ltI (.lit (20)) (.var 0)), false)])
theorem transmitSteps_leaf12 : leafGood cfg 3000 10 [34, 3] transmitStepsL12 = true := by kernel_rfl
theorem transmitSteps_ok12 : LeafOk Try.checked.prog 10 [34, 3] transmitStepsL12 := leaf_of transmitSteps_leaf12
def transmitStepsL13 : List Bool × PC := ([true], [((.eqI (qT 46) (.lit (1))), true), ((.eqI (qT 46) (.lit (2))), false), ((qB 40), false), ((.ltI (qT 14) (.cell 1000000 (.lit (0)) 5)), true), ((qB 24), true), ((.eqI (qT 8) (.lit (0))), false), ((.eqI (qT 85) (.lit (0))), true), ((qB 2), true), ((qB 43), false), ((qB 39), true), ((.ltI (.cell 1000000 (.lit (0)) 18) (.lit (0))), false), ((.ltI (.cell 1000000 (.lit (0)) 18) (.var 0)), true), ((.eqI (.var 0) (.lit (0))), false), ((.ltI (.lit (20)) (.var 0)), false)])
theorem transmitSteps_leaf13 : leafGood cfg 3000 10 [34, 3] transmitStepsL13 = true := by kernel_rfl
theorem transmitSteps_ok13 : LeafOk Try.checked.prog 10 [34, 3] transmitStepsL13 := leaf_of transmitSteps_leaf13
def transmitStepsL15 : List Bool × PC := ([true], [((.ltI (qT 14) (.cell 1000000 (.lit (0)) 5)), false), ((qB 24), true), ((.eqI (qT 8) (.lit (0))), false), ((.eqI (qT 85) (.lit (0))), true), ((qB 2), true), ((qB 43), false), ((qB 39), true), ((.ltI (.cell 1000000 (.lit (0)) 18) (.lit (0))), false), ((.ltI (.cell 1000000 (.lit (0)) 18) (.var 0)), true), ((.eqI (.var 0) (.lit (0))), false), ((.ltI (.lit (20)) (.var 0)), false)])
theorem transmitSteps_leaf15 : leafGood cfg 3000 10 [34, 3] transmitStepsL15 = true := by kernel_rfl
theorem transmitSteps_ok15 : LeafOk Try.checked.prog 10 [34, 3] transmitStepsL15 := leaf_of transmitSteps_leaf15
def transmitStepsL18 : List Bool × PC := ([true], [((qB 2), false), ((qB 43), false), ((qB 39), true), ((.ltI (.cell 1000000 (.lit (0)) 18) (.lit (0))), false), ((.ltI (.cell 1000000 (.lit (0)) 18) (.var 0)), true), ((.eqI (.var 0) (.lit (0))), false), ((.ltI (.lit (20)) (.var 0)), false)])
theorem transmitSteps_leaf18 : leafGood cfg 3000 10 [34, 3] transmitStepsL18 = true := by kernel_rfl
theorem transmitSteps_ok18 : LeafOk Try.checked.prog 10 [34, 3] transmitStepsL18 := leaf_of transmitSteps_leaf18
end Go.Proofs.Ythdecegmnleljaa
