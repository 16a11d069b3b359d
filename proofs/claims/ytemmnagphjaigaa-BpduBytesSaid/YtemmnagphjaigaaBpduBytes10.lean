/-
  Part 10 of the law BpduBytes: some of its ways.
-/
import Derived.Test.YtemmnagphjaigaaBpduBytesR
namespace Go.Proofs.Ytemmnagphjaigaa
open Go.SX
def bpduBytesL0 : List Bool × PC := ([true], [((.ltI (.lit (200)) (.var 0)), true)])
theorem bpduBytes_leaf0 : leafGood cfg 3000 3 [31, 32] bpduBytesL0 = true := by kernel_rfl
theorem bpduBytes_ok0 : LeafOk Try.checked.prog 3 [31, 32] bpduBytesL0 := leaf_of bpduBytes_leaf0
def bpduBytesL5 : List Bool × PC := ([true], [((.ltI (.wrap .u16 (.cell 1000000 (.lit (0)) 6)) (.wrap .u16 (.cell 1000000 (.lit (0)) 7))), false), ((.eqI (.bin (.bandn .u8) (.wrap .u8 (.cell 1000000 (.lit (0)) 1)) (.lit (129))) (.lit (0))), true), ((.eqI (.cell 1000000 (.lit (0)) 0) (.lit (1))), true), ((.eqI (.cell 1000000 (.lit (0)) 0) (.lit (2))), false), ((.ltI (.lit (200)) (.var 0)), false)])
theorem bpduBytes_leaf5 : leafGood cfg 3000 3 [31, 32] bpduBytesL5 = true := by kernel_rfl
theorem bpduBytes_ok5 : LeafOk Try.checked.prog 3 [31, 32] bpduBytesL5 := leaf_of bpduBytes_leaf5
def bpduBytesL6 : List Bool × PC := ([true], [((.eqI (.bin (.bandn .u8) (.wrap .u8 (.cell 1000000 (.lit (0)) 1)) (.lit (129))) (.lit (0))), false), ((.eqI (.cell 1000000 (.lit (0)) 0) (.lit (1))), true), ((.eqI (.cell 1000000 (.lit (0)) 0) (.lit (2))), false), ((.ltI (.lit (200)) (.var 0)), false)])
theorem bpduBytes_leaf6 : leafGood cfg 3000 3 [31, 32] bpduBytesL6 = true := by kernel_rfl
theorem bpduBytes_ok6 : LeafOk Try.checked.prog 3 [31, 32] bpduBytesL6 := leaf_of bpduBytes_leaf6
def bpduBytesL7 : List Bool × PC := ([true], [((.eqI (.bin .rem (.bin .quo (.wrap .u8 (.cell 1000000 (.lit (0)) 1)) (.lit (4))) (.lit (4))) (.lit (0))), true), ((.ltI (.wrap .u16 (.cell 1000000 (.lit (0)) 6)) (.wrap .u16 (.cell 1000000 (.lit (0)) 7))), true), ((.eqI (.cell 1000000 (.lit (0)) 0) (.lit (3))), true), ((.eqI (.cell 1000000 (.lit (0)) 0) (.lit (1))), false), ((.eqI (.cell 1000000 (.lit (0)) 0) (.lit (2))), false), ((.ltI (.lit (200)) (.var 0)), false)])
theorem bpduBytes_leaf7 : leafGood cfg 3000 3 [31, 32] bpduBytesL7 = true := by kernel_rfl
theorem bpduBytes_ok7 : LeafOk Try.checked.prog 3 [31, 32] bpduBytesL7 := leaf_of bpduBytes_leaf7
def bpduBytesL10 : List Bool × PC := ([true], [((.ltI (.wrap .u16 (.cell 1000000 (.lit (0)) 6)) (.wrap .u16 (.cell 1000000 (.lit (0)) 7))), false), ((.eqI (.cell 1000000 (.lit (0)) 0) (.lit (3))), true), ((.eqI (.cell 1000000 (.lit (0)) 0) (.lit (1))), false), ((.eqI (.cell 1000000 (.lit (0)) 0) (.lit (2))), false), ((.ltI (.lit (200)) (.var 0)), false)])
theorem bpduBytes_leaf10 : leafGood cfg 3000 3 [31, 32] bpduBytesL10 = true := by kernel_rfl
theorem bpduBytes_ok10 : LeafOk Try.checked.prog 3 [31, 32] bpduBytesL10 := leaf_of bpduBytes_leaf10
def bpduBytesL15 : List Bool × PC := ([false], [((.eqI (.bin (.bandn .u8) (.wrap .u8 (.cell 1000000 (.lit (0)) 1)) (.lit (129))) (.lit (0))), false), ((.eqI (.cell 1000000 (.lit (0)) 0) (.lit (1))), true), ((.eqI (.cell 1000000 (.lit (0)) 0) (.lit (2))), false)])
theorem bpduBytes_leaf15 : leafGood cfg 3000 3 [31, 32] bpduBytesL15 = true := by kernel_rfl
theorem bpduBytes_ok15 : LeafOk Try.checked.prog 3 [31, 32] bpduBytesL15 := leaf_of bpduBytes_leaf15
def bpduBytesL16 : List Bool × PC := ([false], [((.eqI (.bin .rem (.bin .quo (.wrap .u8 (.cell 1000000 (.lit (0)) 1)) (.lit (4))) (.lit (4))) (.lit (0))), true), ((.ltI (.wrap .u16 (.cell 1000000 (.lit (0)) 6)) (.wrap .u16 (.cell 1000000 (.lit (0)) 7))), true), ((.eqI (.cell 1000000 (.lit (0)) 0) (.lit (3))), true), ((.eqI (.cell 1000000 (.lit (0)) 0) (.lit (1))), false), ((.eqI (.cell 1000000 (.lit (0)) 0) (.lit (2))), false)])
theorem bpduBytes_leaf16 : leafGood cfg 3000 3 [31, 32] bpduBytesL16 = true := by kernel_rfl
theorem bpduBytes_ok16 : LeafOk Try.checked.prog 3 [31, 32] bpduBytesL16 := leaf_of bpduBytes_leaf16
end Go.Proofs.Ytemmnagphjaigaa
