/-
  Part 1 of the law EtherReads: some of its ways.
-/
import Derived.Test.YtemmnagphjaigaaEtherReads0
namespace Go.Proofs.Ytemmnagphjaigaa
open Go.SX
def etherReadsL6 : List Bool × PC := ([true], [((.ltI (.var 0) (.bin .add (.wrap .u8 (.cell 0 (.lit (13)) 0)) (.lit (14)))), true), ((.eqI (.wrap .u8 (.cell 0 (.lit (13)) 0)) (.lit (0))), false), ((.eqI (.wrap .u8 (.cell 0 (.lit (12)) 0)) (.lit (0))), true), ((.ltI (.wrap .u8 (.cell 0 (.lit (12)) 0)) (.lit (6))), true), ((.eqI (.bin .rem (.wrap .u8 (.cell 0 (.lit (6)) 0)) (.lit (2))) (.lit (1))), false), ((.ltI (.lit (1514)) (.var 0)), false), ((.ltI (.var 0) (.lit (60))), false), ((.eqI (.var 0) (.lit (0))), false), ((.ltI (.lit (2000)) (.var 0)), false)])
theorem etherReads_leaf6 : leafGood cfg 3000 5 [32] etherReadsL6 = true := by kernel_rfl
theorem etherReads_ok6 : LeafOk Try.checked.prog 5 [32] etherReadsL6 := leaf_of etherReads_leaf6
def etherReadsL14 : List Bool × PC := ([true], [((.ltI (.var 0) (.bin .add (.bin .add (.bin .mul (.wrap .u8 (.cell 0 (.lit (12)) 0)) (.lit (256))) (.wrap .u8 (.cell 0 (.lit (13)) 0))) (.lit (14)))), false), ((.eqI (.wrap .u8 (.cell 0 (.lit (12)) 0)) (.lit (5))), false), ((.eqI (.wrap .u8 (.cell 0 (.lit (12)) 0)) (.lit (0))), false), ((.ltI (.wrap .u8 (.cell 0 (.lit (12)) 0)) (.lit (6))), true), ((.eqI (.bin .rem (.wrap .u8 (.cell 0 (.lit (6)) 0)) (.lit (2))) (.lit (1))), false), ((.ltI (.lit (1514)) (.var 0)), false), ((.ltI (.var 0) (.lit (60))), false), ((.eqI (.var 0) (.lit (0))), false), ((.ltI (.lit (2000)) (.var 0)), false)])
theorem etherReads_leaf14 : leafGood cfg 3000 5 [32] etherReadsL14 = true := by kernel_rfl
theorem etherReads_ok14 : LeafOk Try.checked.prog 5 [32] etherReadsL14 := leaf_of etherReads_leaf14
end Go.Proofs.Ytemmnagphjaigaa
