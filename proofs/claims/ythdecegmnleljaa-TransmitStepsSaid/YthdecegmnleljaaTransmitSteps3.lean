/-
  Part 3 of the law TransmitSteps: some of its ways.
-/
import Derived.Test.YthdecegmnleljaaTransmitSteps0
namespace Go.Proofs.Ythdecegmnleljaa
open Go.SX
def transmitStepsL0 : List Bool × PC := ([true], [((.ltI (.lit (20)) (.var 0)), true)])
theorem transmitSteps_leaf0 : leafGood cfg 3000 10 [34, 3] transmitStepsL0 = true := by kernel_rfl
theorem transmitSteps_ok0 : LeafOk Try.checked.prog 10 [34, 3] transmitStepsL0 := leaf_of transmitSteps_leaf0
def transmitStepsL5 : List Bool × PC := ([true], [((.eqI (qT 46) (.lit (2))), true), ((qB 40), false), ((.ltI (qT 14) (.cell 1000000 (.lit (0)) 5)), true), ((qB 24), true), ((.eqI (qT 62) (.lit (0))), true), ((.eqI (qT 8) (.lit (0))), true), ((.eqI (qT 85) (.lit (0))), true), ((qB 2), true), ((qB 43), false), ((qB 39), true), ((.ltI (.cell 1000000 (.lit (0)) 18) (.lit (0))), false), ((.ltI (.cell 1000000 (.lit (0)) 18) (.var 0)), true), ((.eqI (.var 0) (.lit (0))), false), ((.ltI (.lit (20)) (.var 0)), false)])
theorem transmitSteps_leaf5 : leafGood cfg 3000 10 [34, 3] transmitStepsL5 = true := by kernel_rfl
theorem transmitSteps_ok5 : LeafOk Try.checked.prog 10 [34, 3] transmitStepsL5 := leaf_of transmitSteps_leaf5
def transmitStepsL7 : List Bool × PC := ([true], [((.eqI (qT 46) (.lit (1))), false), ((.eqI (qT 46) (.lit (2))), false), ((qB 40), false), ((.ltI (qT 14) (.cell 1000000 (.lit (0)) 5)), true), ((qB 24), true), ((.eqI (qT 62) (.lit (0))), true), ((.eqI (qT 8) (.lit (0))), true), ((.eqI (qT 85) (.lit (0))), true), ((qB 2), true), ((qB 43), false), ((qB 39), true), ((.ltI (.cell 1000000 (.lit (0)) 18) (.lit (0))), false), ((.ltI (.cell 1000000 (.lit (0)) 18) (.var 0)), true), ((.eqI (.var 0) (.lit (0))), false), ((.ltI (.lit (20)) (.var 0)), false)])
theorem transmitSteps_leaf7 : leafGood cfg 3000 10 [34, 3] transmitStepsL7 = true := by kernel_rfl
theorem transmitSteps_ok7 : LeafOk Try.checked.prog 10 [34, 3] transmitStepsL7 := leaf_of transmitSteps_leaf7
def transmitStepsL9 : List Bool × PC := ([true], [((qB 24), false), ((.eqI (qT 62) (.lit (0))), true), ((.eqI (qT 8) (.lit (0))), true), ((.eqI (qT 85) (.lit (0))), true), ((qB 2), true), ((qB 43), false), ((qB 39), true), ((.ltI (.cell 1000000 (.lit (0)) 18) (.lit (0))), false), ((.ltI (.cell 1000000 (.lit (0)) 18) (.var 0)), true), ((.eqI (.var 0) (.lit (0))), false), ((.ltI (.lit (20)) (.var 0)), false)])
theorem transmitSteps_leaf9 : leafGood cfg 3000 10 [34, 3] transmitStepsL9 = true := by kernel_rfl
theorem transmitSteps_ok9 : LeafOk Try.checked.prog 10 [34, 3] transmitStepsL9 := leaf_of transmitSteps_leaf9
def transmitStepsL10 : List Bool × PC := ([true], [((.eqI (qT 62) (.lit (0))), false), ((.eqI (qT 8) (.lit (0))), true), ((.eqI (qT 85) (.lit (0))), true), ((qB 2), true), ((qB 43), false), ((qB 39), true), ((.ltI (.cell 1000000 (.lit (0)) 18) (.lit (0))), false), ((.ltI (.cell 1000000 (.lit (0)) 18) (.var 0)), true), ((.eqI (.var 0) (.lit (0))), false), ((.ltI (.lit (20)) (.var 0)), false)])
theorem transmitSteps_leaf10 : leafGood cfg 3000 10 [34, 3] transmitStepsL10 = true := by kernel_rfl
theorem transmitSteps_ok10 : LeafOk Try.checked.prog 10 [34, 3] transmitStepsL10 := leaf_of transmitSteps_leaf10
def transmitStepsL14 : List Bool × PC := ([true], [((.eqI (qT 46) (.lit (1))), false), ((.eqI (qT 46) (.lit (2))), false), ((qB 40), false), ((.ltI (qT 14) (.cell 1000000 (.lit (0)) 5)), true), ((qB 24), true), ((.eqI (qT 8) (.lit (0))), false), ((.eqI (qT 85) (.lit (0))), true), ((qB 2), true), ((qB 43), false), ((qB 39), true), ((.ltI (.cell 1000000 (.lit (0)) 18) (.lit (0))), false), ((.ltI (.cell 1000000 (.lit (0)) 18) (.var 0)), true), ((.eqI (.var 0) (.lit (0))), false), ((.ltI (.lit (20)) (.var 0)), false)])
theorem transmitSteps_leaf14 : leafGood cfg 3000 10 [34, 3] transmitStepsL14 = true := by kernel_rfl
theorem transmitSteps_ok14 : LeafOk Try.checked.prog 10 [34, 3] transmitStepsL14 := leaf_of transmitSteps_leaf14
def transmitStepsL16 : List Bool × PC := ([true], [((qB 24), false), ((.eqI (qT 8) (.lit (0))), false), ((.eqI (qT 85) (.lit (0))), true), ((qB 2), true), ((qB 43), false), ((qB 39), true), ((.ltI (.cell 1000000 (.lit (0)) 18) (.lit (0))), false), ((.ltI (.cell 1000000 (.lit (0)) 18) (.var 0)), true), ((.eqI (.var 0) (.lit (0))), false), ((.ltI (.lit (20)) (.var 0)), false)])
theorem transmitSteps_leaf16 : leafGood cfg 3000 10 [34, 3] transmitStepsL16 = true := by kernel_rfl
theorem transmitSteps_ok16 : LeafOk Try.checked.prog 10 [34, 3] transmitStepsL16 := leaf_of transmitSteps_leaf16
def transmitStepsL20 : List Bool × PC := ([true], [((.ltI (.cell 1000000 (.lit (0)) 18) (.var 0)), false), ((.eqI (.var 0) (.lit (0))), false), ((.ltI (.lit (20)) (.var 0)), false)])
theorem transmitSteps_leaf20 : leafGood cfg 3000 10 [34, 3] transmitStepsL20 = true := by kernel_rfl
theorem transmitSteps_ok20 : LeafOk Try.checked.prog 10 [34, 3] transmitStepsL20 := leaf_of transmitSteps_leaf20
end Go.Proofs.Ythdecegmnleljaa
