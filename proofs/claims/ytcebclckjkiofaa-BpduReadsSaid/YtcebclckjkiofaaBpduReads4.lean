/-
  Part 4 of the law BpduReads: some of its ways.
-/
import Derived.Test.YtcebclckjkiofaaBpduReadsR
namespace Go.Proofs.Ytcebclckjkiofaa
open Go.SX
def bpduReadsL2 : List Bool × PC := ([true], [((.ltI (.var 0) (.lit (4))), true), ((.eqI (.var 0) (.lit (0))), false), ((.ltI (.lit (300)) (.var 0)), false)])
theorem bpduReads_leaf2 : leafGood cfg 3000 8 [24] bpduReadsL2 = true := by kernel_rfl
theorem bpduReads_ok2 : LeafOk Try.checked.prog 8 [24] bpduReadsL2 := leaf_of bpduReads_leaf2
def bpduReadsL7 : List Bool × PC := ([true], [((.ltI (.wrap .u8 (.cell 0 (.lit (2)) 0)) (.lit (2))), true), ((.eqI (.wrap .u8 (.cell 0 (.lit (3)) 0)) (.lit (2))), true), ((.eqI (.wrap .u8 (.cell 0 (.lit (3)) 0)) (.lit (0))), false), ((.eqI (.wrap .u8 (.cell 0 (.lit (3)) 0)) (.lit (128))), false), ((.eqI (.wrap .u8 (.cell 0 (.lit (1)) 0)) (.lit (0))), true), ((.eqI (.wrap .u8 (.cell 0 (.lit (0)) 0)) (.lit (0))), true), ((.ltI (.var 0) (.lit (4))), false), ((.eqI (.var 0) (.lit (0))), false), ((.ltI (.lit (300)) (.var 0)), false)])
theorem bpduReads_leaf7 : leafGood cfg 3000 8 [24] bpduReadsL7 = true := by kernel_rfl
theorem bpduReads_ok7 : LeafOk Try.checked.prog 8 [24] bpduReadsL7 := leaf_of bpduReads_leaf7
def bpduReadsL12 : List Bool × PC := ([true], [((.ltI (.bin .add (.bin .mul (.wrap .u8 (.cell 0 (.lit (27)) 0)) (.lit (256))) (.wrap .u8 (.cell 0 (.lit (28)) 0))) (.bin .add (.bin .mul (.wrap .u8 (.cell 0 (.lit (29)) 0)) (.lit (256))) (.wrap .u8 (.cell 0 (.lit (30)) 0)))), false), ((.ltI (.var 0) (.lit (36))), false), ((.ltI (.var 0) (.lit (35))), false), ((.ltI (.wrap .u8 (.cell 0 (.lit (2)) 0)) (.lit (2))), false), ((.eqI (.wrap .u8 (.cell 0 (.lit (3)) 0)) (.lit (2))), true), ((.eqI (.wrap .u8 (.cell 0 (.lit (3)) 0)) (.lit (0))), false), ((.eqI (.wrap .u8 (.cell 0 (.lit (3)) 0)) (.lit (128))), false), ((.eqI (.wrap .u8 (.cell 0 (.lit (1)) 0)) (.lit (0))), true), ((.eqI (.wrap .u8 (.cell 0 (.lit (0)) 0)) (.lit (0))), true), ((.ltI (.var 0) (.lit (4))), false), ((.eqI (.var 0) (.lit (0))), false), ((.ltI (.lit (300)) (.var 0)), false)])
theorem bpduReads_leaf12 : leafGood cfg 3000 8 [24] bpduReadsL12 = true := by kernel_rfl
theorem bpduReads_ok12 : LeafOk Try.checked.prog 8 [24] bpduReadsL12 := leaf_of bpduReads_leaf12
def bpduReadsL15 : List Bool × PC := ([true], [((.eqI (.wrap .u8 (.cell 0 (.lit (0)) 0)) (.lit (0))), false), ((.ltI (.var 0) (.lit (4))), false), ((.eqI (.var 0) (.lit (0))), false), ((.ltI (.lit (300)) (.var 0)), false)])
theorem bpduReads_leaf15 : leafGood cfg 3000 8 [24] bpduReadsL15 = true := by kernel_rfl
theorem bpduReads_ok15 : LeafOk Try.checked.prog 8 [24] bpduReadsL15 := leaf_of bpduReads_leaf15
end Go.Proofs.Ytcebclckjkiofaa
