/-
  Calls of values alone of the law AddrTexts, part 5.
-/
import Derived.Test.YtjlghikadokcbaaAddrTextsV
namespace Go.Proofs.Ytjlghikadokcbaa
open Go.SX
theorem addrTexts_v4 : VMemo.ok cfgB 3000 addrTextsV4 = true := by kernel_rfl
theorem addrTexts_v10 : VMemo.ok cfgB 3000 addrTextsV10 = true := by kernel_rfl
theorem addrTexts_v16 : VMemo.ok cfgB 3000 addrTextsV16 = true := by kernel_rfl
theorem addrTexts_v22 : VMemo.ok cfgB 3000 addrTextsV22 = true := by kernel_rfl
theorem addrTexts_v28 : VMemo.ok cfgB 3000 addrTextsV28 = true := by kernel_rfl
end Go.Proofs.Ytjlghikadokcbaa
