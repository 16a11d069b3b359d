/-
  Part 3 of the law EtherReads: some of its ways.
-/
import Derived.Test.YtemmnagphjaigaaEtherReads0
namespace Go.Proofs.Ytemmnagphjaigaa
open Go.SX
def etherReadsL10 : List Bool × PC := ([true], [((.ltI (.var 0) (.bin .add (.wrap .u8 (.cell 0 (.lit (13)) 0)) (.lit (1294)))), true), ((.ltI (.wrap .u8 (.cell 0 (.lit (13)) 0)) (.lit (221))), true), ((.eqI (.wrap .u8 (.cell 0 (.lit (12)) 0)) (.lit (5))), true), ((.eqI (.wrap .u8 (.cell 0 (.lit (12)) 0)) (.lit (0))), false), ((.ltI (.wrap .u8 (.cell 0 (.lit (12)) 0)) (.lit (6))), true), ((.eqI (.bin .rem (.wrap .u8 (.cell 0 (.lit (6)) 0)) (.lit (2))) (.lit (1))), false), ((.ltI (.lit (1514)) (.var 0)), false), ((.ltI (.var 0) (.lit (60))), false), ((.eqI (.var 0) (.lit (0))), false), ((.ltI (.lit (2000)) (.var 0)), false)])
theorem etherReads_leaf10 : leafGood cfg 3000 5 [32] etherReadsL10 = true := by kernel_rfl
theorem etherReads_ok10 : LeafOk Try.checked.prog 5 [32] etherReadsL10 := leaf_of etherReads_leaf10
def etherReadsL11 : List Bool × PC := ([true], [((.ltI (.var 0) (.bin .add (.wrap .u8 (.cell 0 (.lit (13)) 0)) (.lit (1294)))), false), ((.ltI (.wrap .u8 (.cell 0 (.lit (13)) 0)) (.lit (221))), true), ((.eqI (.wrap .u8 (.cell 0 (.lit (12)) 0)) (.lit (5))), true), ((.eqI (.wrap .u8 (.cell 0 (.lit (12)) 0)) (.lit (0))), false), ((.ltI (.wrap .u8 (.cell 0 (.lit (12)) 0)) (.lit (6))), true), ((.eqI (.bin .rem (.wrap .u8 (.cell 0 (.lit (6)) 0)) (.lit (2))) (.lit (1))), false), ((.ltI (.lit (1514)) (.var 0)), false), ((.ltI (.var 0) (.lit (60))), false), ((.eqI (.var 0) (.lit (0))), false), ((.ltI (.lit (2000)) (.var 0)), false)])
theorem etherReads_leaf11 : leafGood cfg 3000 5 [32] etherReadsL11 = true := by kernel_rfl
theorem etherReads_ok11 : LeafOk Try.checked.prog 5 [32] etherReadsL11 := leaf_of etherReads_leaf11
end Go.Proofs.Ytemmnagphjaigaa
