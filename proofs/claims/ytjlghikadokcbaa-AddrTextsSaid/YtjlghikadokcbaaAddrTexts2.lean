/-
  Part 2 of the law AddrTexts: some of its ways.
-/
import Derived.Test.YtjlghikadokcbaaAddrTextsR
namespace Go.Proofs.Ytjlghikadokcbaa
open Go.SX
def addrTextsL0 : List Bool × PC := ([], [((.ltI (.lit (100)) (.wrap .u64 (.cell 1000000 (.lit (0)) 0))), true)])
theorem addrTexts_leaf0 : leafGood cfg 3000 3 [9] addrTextsL0 = true := by kernel_rfl
theorem addrTexts_ok0 : LeafOk Try.checked.prog 3 [9] addrTextsL0 := leaf_of addrTexts_leaf0
def addrTextsL11 : List Bool × PC := ([], [((.eqI (.bin .rem (.wrap .u8 (.bin (.shr 256) (.lit (9982748476797594485687712743424)) (.wrap .u8 (.cell 1000001 (.lit (7)) 0)))) (.lit (2))) (.lit (1))), false), ((.eqI (.bin .rem (.wrap .u8 (.bin (.shr 256) (.lit (9982748476797594485687712743424)) (.wrap .u8 (.cell 1000001 (.lit (6)) 0)))) (.lit (2))) (.lit (1))), true), ((.eqI (.wrap .u8 (.cell 1000001 (.lit (5)) 0)) (.lit (58))), true), ((.eqI (.bin .rem (.wrap .u8 (.bin (.shr 256) (.lit (9982748476797594485687712743424)) (.wrap .u8 (.cell 1000001 (.lit (4)) 0)))) (.lit (2))) (.lit (1))), true), ((.eqI (.bin .rem (.wrap .u8 (.bin (.shr 256) (.lit (9982748476797594485687712743424)) (.wrap .u8 (.cell 1000001 (.lit (3)) 0)))) (.lit (2))) (.lit (1))), true), ((.eqI (.wrap .u8 (.cell 1000001 (.lit (2)) 0)) (.lit (58))), true), ((.eqI (.bin .rem (.wrap .u8 (.bin (.shr 256) (.lit (9982748476797594485687712743424)) (.wrap .u8 (.cell 1000001 (.lit (1)) 0)))) (.lit (2))) (.lit (1))), true), ((.eqI (.bin .rem (.wrap .u8 (.bin (.shr 256) (.lit (9982748476797594485687712743424)) (.wrap .u8 (.cell 1000001 (.lit (0)) 0)))) (.lit (2))) (.lit (1))), true), ((.eqI (.wrap .u64 (.cell 1000000 (.lit (0)) 0)) (.lit (17))), true), ((.ltI (.lit (100)) (.wrap .u64 (.cell 1000000 (.lit (0)) 0))), false)])
theorem addrTexts_leaf11 : leafGood cfg 3000 3 [9] addrTextsL11 = true := by kernel_rfl
theorem addrTexts_ok11 : LeafOk Try.checked.prog 3 [9] addrTextsL11 := leaf_of addrTexts_leaf11
def addrTextsL15 : List Bool × PC := ([], [((.eqI (.bin .rem (.wrap .u8 (.bin (.shr 256) (.lit (9982748476797594485687712743424)) (.wrap .u8 (.cell 1000001 (.lit (3)) 0)))) (.lit (2))) (.lit (1))), false), ((.eqI (.wrap .u8 (.cell 1000001 (.lit (2)) 0)) (.lit (58))), true), ((.eqI (.bin .rem (.wrap .u8 (.bin (.shr 256) (.lit (9982748476797594485687712743424)) (.wrap .u8 (.cell 1000001 (.lit (1)) 0)))) (.lit (2))) (.lit (1))), true), ((.eqI (.bin .rem (.wrap .u8 (.bin (.shr 256) (.lit (9982748476797594485687712743424)) (.wrap .u8 (.cell 1000001 (.lit (0)) 0)))) (.lit (2))) (.lit (1))), true), ((.eqI (.wrap .u64 (.cell 1000000 (.lit (0)) 0)) (.lit (17))), true), ((.ltI (.lit (100)) (.wrap .u64 (.cell 1000000 (.lit (0)) 0))), false)])
theorem addrTexts_leaf15 : leafGood cfg 3000 3 [9] addrTextsL15 = true := by kernel_rfl
theorem addrTexts_ok15 : LeafOk Try.checked.prog 3 [9] addrTextsL15 := leaf_of addrTexts_leaf15
def addrTextsL19 : List Bool × PC := ([], [((.eqI (.wrap .u64 (.cell 1000000 (.lit (0)) 0)) (.lit (17))), false), ((.ltI (.lit (100)) (.wrap .u64 (.cell 1000000 (.lit (0)) 0))), false)])
theorem addrTexts_leaf19 : leafGood cfg 3000 3 [9] addrTextsL19 = true := by kernel_rfl
theorem addrTexts_ok19 : LeafOk Try.checked.prog 3 [9] addrTextsL19 := leaf_of addrTexts_leaf19
end Go.Proofs.Ytjlghikadokcbaa
