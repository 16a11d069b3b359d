/-
  Part 5 of the law EtherReads: some of its ways.
-/
import Derived.Test.YtemmnagphjaigaaEtherReads0
namespace Go.Proofs.Ytemmnagphjaigaa
open Go.SX
def etherReadsL1 : List Bool × PC := ([true], [((.eqI (.var 0) (.lit (0))), true), ((.ltI (.lit (2000)) (.var 0)), false)])
theorem etherReads_leaf1 : leafGood cfg 3000 5 [32] etherReadsL1 = true := by kernel_rfl
theorem etherReads_ok1 : LeafOk Try.checked.prog 5 [32] etherReadsL1 := leaf_of etherReads_leaf1
def etherReadsL2 : List Bool × PC := ([true], [((.ltI (.var 0) (.lit (60))), true), ((.eqI (.var 0) (.lit (0))), false), ((.ltI (.lit (2000)) (.var 0)), false)])
theorem etherReads_leaf2 : leafGood cfg 3000 5 [32] etherReadsL2 = true := by kernel_rfl
theorem etherReads_ok2 : LeafOk Try.checked.prog 5 [32] etherReadsL2 := leaf_of etherReads_leaf2
def etherReadsL13 : List Bool × PC := ([true], [((.ltI (.var 0) (.bin .add (.bin .add (.bin .mul (.wrap .u8 (.cell 0 (.lit (12)) 0)) (.lit (256))) (.wrap .u8 (.cell 0 (.lit (13)) 0))) (.lit (14)))), true), ((.eqI (.wrap .u8 (.cell 0 (.lit (12)) 0)) (.lit (5))), false), ((.eqI (.wrap .u8 (.cell 0 (.lit (12)) 0)) (.lit (0))), false), ((.ltI (.wrap .u8 (.cell 0 (.lit (12)) 0)) (.lit (6))), true), ((.eqI (.bin .rem (.wrap .u8 (.cell 0 (.lit (6)) 0)) (.lit (2))) (.lit (1))), false), ((.ltI (.lit (1514)) (.var 0)), false), ((.ltI (.var 0) (.lit (60))), false), ((.eqI (.var 0) (.lit (0))), false), ((.ltI (.lit (2000)) (.var 0)), false)])
theorem etherReads_leaf13 : leafGood cfg 3000 5 [32] etherReadsL13 = true := by kernel_rfl
theorem etherReads_ok13 : LeafOk Try.checked.prog 5 [32] etherReadsL13 := leaf_of etherReads_leaf13
def etherReadsL15 : List Bool × PC := ([true], [((.ltI (.wrap .u8 (.cell 0 (.lit (12)) 0)) (.lit (6))), false), ((.eqI (.bin .rem (.wrap .u8 (.cell 0 (.lit (6)) 0)) (.lit (2))) (.lit (1))), false), ((.ltI (.lit (1514)) (.var 0)), false), ((.ltI (.var 0) (.lit (60))), false), ((.eqI (.var 0) (.lit (0))), false), ((.ltI (.lit (2000)) (.var 0)), false)])
theorem etherReads_leaf15 : leafGood cfg 3000 5 [32] etherReadsL15 = true := by kernel_rfl
theorem etherReads_ok15 : LeafOk Try.checked.prog 5 [32] etherReadsL15 := leaf_of etherReads_leaf15
end Go.Proofs.Ytemmnagphjaigaa
