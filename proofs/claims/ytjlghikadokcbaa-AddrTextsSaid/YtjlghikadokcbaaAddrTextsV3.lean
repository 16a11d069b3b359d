/-
  Calls of values alone of the law AddrTexts, part 3.
-/
import Derived.Test.YtjlghikadokcbaaAddrTextsV
namespace Go.Proofs.Ytjlghikadokcbaa
open Go.SX
theorem addrTexts_v2 : VMemo.ok cfgB 3000 addrTextsV2 = true := by kernel_rfl
theorem addrTexts_v8 : VMemo.ok cfgB 3000 addrTextsV8 = true := by kernel_rfl
theorem addrTexts_v14 : VMemo.ok cfgB 3000 addrTextsV14 = true := by kernel_rfl
theorem addrTexts_v20 : VMemo.ok cfgB 3000 addrTextsV20 = true := by kernel_rfl
theorem addrTexts_v26 : VMemo.ok cfgB 3000 addrTextsV26 = true := by kernel_rfl
end Go.Proofs.Ytjlghikadokcbaa
