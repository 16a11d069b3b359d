/-
  Calls of values alone of the law AddrTexts, part 4.
-/
import Derived.Test.YtjlghikadokcbaaAddrTextsV
namespace Go.Proofs.Ytjlghikadokcbaa
open Go.SX
theorem addrTexts_v3 : VMemo.ok cfgB 3000 addrTextsV3 = true := by kernel_rfl
theorem addrTexts_v9 : VMemo.ok cfgB 3000 addrTextsV9 = true := by kernel_rfl
theorem addrTexts_v15 : VMemo.ok cfgB 3000 addrTextsV15 = true := by kernel_rfl
theorem addrTexts_v21 : VMemo.ok cfgB 3000 addrTextsV21 = true := by kernel_rfl
theorem addrTexts_v27 : VMemo.ok cfgB 3000 addrTextsV27 = true := by kernel_rfl
end Go.Proofs.Ytjlghikadokcbaa
