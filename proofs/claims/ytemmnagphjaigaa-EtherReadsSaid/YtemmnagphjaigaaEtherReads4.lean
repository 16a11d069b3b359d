/-
  Part 4 of the law EtherReads: some of its ways.
-/
import Derived.Test.YtemmnagphjaigaaEtherReads0
namespace Go.Proofs.Ytemmnagphjaigaa
open Go.SX
def etherReadsL7 : List Bool × PC := ([true], [((.ltI (.wrap .u8 (.cell 0 (.lit (13)) 0)) (.lit (3))), true), ((.ltI (.var 0) (.bin .add (.wrap .u8 (.cell 0 (.lit (13)) 0)) (.lit (14)))), false), ((.eqI (.wrap .u8 (.cell 0 (.lit (13)) 0)) (.lit (0))), false), ((.eqI (.wrap .u8 (.cell 0 (.lit (12)) 0)) (.lit (0))), true), ((.ltI (.wrap .u8 (.cell 0 (.lit (12)) 0)) (.lit (6))), true), ((.eqI (.bin .rem (.wrap .u8 (.cell 0 (.lit (6)) 0)) (.lit (2))) (.lit (1))), false), ((.ltI (.lit (1514)) (.var 0)), false), ((.ltI (.var 0) (.lit (60))), false), ((.eqI (.var 0) (.lit (0))), false), ((.ltI (.lit (2000)) (.var 0)), false)])
theorem etherReads_leaf7 : leafGood cfg 3000 5 [32] etherReadsL7 = true := by kernel_rfl
theorem etherReads_ok7 : LeafOk Try.checked.prog 5 [32] etherReadsL7 := leaf_of etherReads_leaf7
def etherReadsL8 : List Bool × PC := ([true], [((.ltI (.wrap .u8 (.cell 0 (.lit (13)) 0)) (.lit (4))), true), ((.ltI (.wrap .u8 (.cell 0 (.lit (13)) 0)) (.lit (3))), false), ((.ltI (.var 0) (.bin .add (.wrap .u8 (.cell 0 (.lit (13)) 0)) (.lit (14)))), false), ((.eqI (.wrap .u8 (.cell 0 (.lit (13)) 0)) (.lit (0))), false), ((.eqI (.wrap .u8 (.cell 0 (.lit (12)) 0)) (.lit (0))), true), ((.ltI (.wrap .u8 (.cell 0 (.lit (12)) 0)) (.lit (6))), true), ((.eqI (.bin .rem (.wrap .u8 (.cell 0 (.lit (6)) 0)) (.lit (2))) (.lit (1))), false), ((.ltI (.lit (1514)) (.var 0)), false), ((.ltI (.var 0) (.lit (60))), false), ((.eqI (.var 0) (.lit (0))), false), ((.ltI (.lit (2000)) (.var 0)), false)])
theorem etherReads_leaf8 : leafGood cfg 3000 5 [32] etherReadsL8 = true := by kernel_rfl
theorem etherReads_ok8 : LeafOk Try.checked.prog 5 [32] etherReadsL8 := leaf_of etherReads_leaf8
def etherReadsL16 : List Bool × PC := ([false], [])
theorem etherReads_leaf16 : leafGood cfg 3000 5 [32] etherReadsL16 = true := by kernel_rfl
theorem etherReads_ok16 : LeafOk Try.checked.prog 5 [32] etherReadsL16 := leaf_of etherReads_leaf16
end Go.Proofs.Ytemmnagphjaigaa
