/-
  Calls of values alone of the law AddrTexts, part 6.
-/
import Derived.Test.YtjlghikadokcbaaAddrTextsV
namespace Go.Proofs.Ytjlghikadokcbaa
open Go.SX
theorem addrTexts_v5 : VMemo.ok cfgB 3000 addrTextsV5 = true := by kernel_rfl
theorem addrTexts_v11 : VMemo.ok cfgB 3000 addrTextsV11 = true := by kernel_rfl
theorem addrTexts_v17 : VMemo.ok cfgB 3000 addrTextsV17 = true := by kernel_rfl
theorem addrTexts_v23 : VMemo.ok cfgB 3000 addrTextsV23 = true := by kernel_rfl
end Go.Proofs.Ytjlghikadokcbaa
