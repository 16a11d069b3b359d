/-
  Part 6 of the law EtherReads: some of its ways.
-/
import Derived.Test.YtemmnagphjaigaaEtherReads0
namespace Go.Proofs.Ytemmnagphjaigaa
open Go.SX
def etherReadsL0 : List Bool × PC := ([true], [((.ltI (.lit (2000)) (.var 0)), true)])
theorem etherReads_leaf0 : leafGood cfg 3000 5 [32] etherReadsL0 = true := by kernel_rfl
theorem etherReads_ok0 : LeafOk Try.checked.prog 5 [32] etherReadsL0 := leaf_of etherReads_leaf0
def etherReadsL3 : List Bool × PC := ([true], [((.ltI (.lit (1514)) (.var 0)), true), ((.ltI (.var 0) (.lit (60))), false), ((.eqI (.var 0) (.lit (0))), false), ((.ltI (.lit (2000)) (.var 0)), false)])
theorem etherReads_leaf3 : leafGood cfg 3000 5 [32] etherReadsL3 = true := by kernel_rfl
theorem etherReads_ok3 : LeafOk Try.checked.prog 5 [32] etherReadsL3 := leaf_of etherReads_leaf3
def etherReadsL4 : List Bool × PC := ([true], [((.eqI (.bin .rem (.wrap .u8 (.cell 0 (.lit (6)) 0)) (.lit (2))) (.lit (1))), true), ((.ltI (.lit (1514)) (.var 0)), false), ((.ltI (.var 0) (.lit (60))), false), ((.eqI (.var 0) (.lit (0))), false), ((.ltI (.lit (2000)) (.var 0)), false)])
theorem etherReads_leaf4 : leafGood cfg 3000 5 [32] etherReadsL4 = true := by kernel_rfl
theorem etherReads_ok4 : LeafOk Try.checked.prog 5 [32] etherReadsL4 := leaf_of etherReads_leaf4
def etherReadsL5 : List Bool × PC := ([true], [((.eqI (.wrap .u8 (.cell 0 (.lit (13)) 0)) (.lit (0))), true), ((.eqI (.wrap .u8 (.cell 0 (.lit (12)) 0)) (.lit (0))), true), ((.ltI (.wrap .u8 (.cell 0 (.lit (12)) 0)) (.lit (6))), true), ((.eqI (.bin .rem (.wrap .u8 (.cell 0 (.lit (6)) 0)) (.lit (2))) (.lit (1))), false), ((.ltI (.lit (1514)) (.var 0)), false), ((.ltI (.var 0) (.lit (60))), false), ((.eqI (.var 0) (.lit (0))), false), ((.ltI (.lit (2000)) (.var 0)), false)])
theorem etherReads_leaf5 : leafGood cfg 3000 5 [32] etherReadsL5 = true := by kernel_rfl
theorem etherReads_ok5 : LeafOk Try.checked.prog 5 [32] etherReadsL5 := leaf_of etherReads_leaf5
end Go.Proofs.Ytemmnagphjaigaa
