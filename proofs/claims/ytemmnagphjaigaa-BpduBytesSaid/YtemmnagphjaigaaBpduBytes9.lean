/-
  Part 9 of the law BpduBytes: some of its ways.
-/
import Derived.Test.YtemmnagphjaigaaBpduBytesR
namespace Go.Proofs.Ytemmnagphjaigaa
open Go.SX
def bpduBytesL11 : List Bool × PC := ([true], [((.eqI (.cell 1000000 (.lit (0)) 0) (.lit (3))), false), ((.eqI (.cell 1000000 (.lit (0)) 0) (.lit (1))), false), ((.eqI (.cell 1000000 (.lit (0)) 0) (.lit (2))), false), ((.ltI (.lit (200)) (.var 0)), false)])
theorem bpduBytes_leaf11 : leafGood cfg 3000 3 [31, 32] bpduBytesL11 = true := by kernel_rfl
theorem bpduBytes_ok11 : LeafOk Try.checked.prog 3 [31, 32] bpduBytesL11 := leaf_of bpduBytes_leaf11
def bpduBytesL12 : List Bool × PC := ([false], [((.eqI (.cell 1000000 (.lit (0)) 0) (.lit (2))), true)])
theorem bpduBytes_leaf12 : leafGood cfg 3000 3 [31, 32] bpduBytesL12 = true := by kernel_rfl
theorem bpduBytes_ok12 : LeafOk Try.checked.prog 3 [31, 32] bpduBytesL12 := leaf_of bpduBytes_leaf12
def bpduBytesL14 : List Bool × PC := ([false], [((.ltI (.wrap .u16 (.cell 1000000 (.lit (0)) 6)) (.wrap .u16 (.cell 1000000 (.lit (0)) 7))), false), ((.eqI (.bin (.bandn .u8) (.wrap .u8 (.cell 1000000 (.lit (0)) 1)) (.lit (129))) (.lit (0))), true), ((.eqI (.cell 1000000 (.lit (0)) 0) (.lit (1))), true), ((.eqI (.cell 1000000 (.lit (0)) 0) (.lit (2))), false)])
theorem bpduBytes_leaf14 : leafGood cfg 3000 3 [31, 32] bpduBytesL14 = true := by kernel_rfl
theorem bpduBytes_ok14 : LeafOk Try.checked.prog 3 [31, 32] bpduBytesL14 := leaf_of bpduBytes_leaf14
def bpduBytesL18 : List Bool × PC := ([false], [((.ltI (.wrap .u16 (.cell 1000000 (.lit (0)) 6)) (.wrap .u16 (.cell 1000000 (.lit (0)) 7))), false), ((.eqI (.cell 1000000 (.lit (0)) 0) (.lit (3))), true), ((.eqI (.cell 1000000 (.lit (0)) 0) (.lit (1))), false), ((.eqI (.cell 1000000 (.lit (0)) 0) (.lit (2))), false)])
theorem bpduBytes_leaf18 : leafGood cfg 3000 3 [31, 32] bpduBytesL18 = true := by kernel_rfl
theorem bpduBytes_ok18 : LeafOk Try.checked.prog 3 [31, 32] bpduBytesL18 := leaf_of bpduBytes_leaf18
end Go.Proofs.Ytemmnagphjaigaa
