/-
  Part 2 of the law EtherReads: some of its ways.
-/
import Derived.Test.YtemmnagphjaigaaEtherReads0
namespace Go.Proofs.Ytemmnagphjaigaa
open Go.SX
def etherReadsL9 : List Bool × PC := ([true], [((.ltI (.wrap .u8 (.cell 0 (.lit (13)) 0)) (.lit (4))), false), ((.ltI (.wrap .u8 (.cell 0 (.lit (13)) 0)) (.lit (3))), false), ((.ltI (.var 0) (.bin .add (.wrap .u8 (.cell 0 (.lit (13)) 0)) (.lit (14)))), false), ((.eqI (.wrap .u8 (.cell 0 (.lit (13)) 0)) (.lit (0))), false), ((.eqI (.wrap .u8 (.cell 0 (.lit (12)) 0)) (.lit (0))), true), ((.ltI (.wrap .u8 (.cell 0 (.lit (12)) 0)) (.lit (6))), true), ((.eqI (.bin .rem (.wrap .u8 (.cell 0 (.lit (6)) 0)) (.lit (2))) (.lit (1))), false), ((.ltI (.lit (1514)) (.var 0)), false), ((.ltI (.var 0) (.lit (60))), false), ((.eqI (.var 0) (.lit (0))), false), ((.ltI (.lit (2000)) (.var 0)), false)])
theorem etherReads_leaf9 : leafGood cfg 3000 5 [32] etherReadsL9 = true := by kernel_rfl
theorem etherReads_ok9 : LeafOk Try.checked.prog 5 [32] etherReadsL9 := leaf_of etherReads_leaf9
def etherReadsL12 : List Bool × PC := ([true], [((.ltI (.wrap .u8 (.cell 0 (.lit (13)) 0)) (.lit (221))), false), ((.eqI (.wrap .u8 (.cell 0 (.lit (12)) 0)) (.lit (5))), true), ((.eqI (.wrap .u8 (.cell 0 (.lit (12)) 0)) (.lit (0))), false), ((.ltI (.wrap .u8 (.cell 0 (.lit (12)) 0)) (.lit (6))), true), ((.eqI (.bin .rem (.wrap .u8 (.cell 0 (.lit (6)) 0)) (.lit (2))) (.lit (1))), false), ((.ltI (.lit (1514)) (.var 0)), false), ((.ltI (.var 0) (.lit (60))), false), ((.eqI (.var 0) (.lit (0))), false), ((.ltI (.lit (2000)) (.var 0)), false)])
theorem etherReads_leaf12 : leafGood cfg 3000 5 [32] etherReadsL12 = true := by kernel_rfl
theorem etherReads_ok12 : LeafOk Try.checked.prog 5 [32] etherReadsL12 := leaf_of etherReads_leaf12
end Go.Proofs.Ytemmnagphjaigaa
