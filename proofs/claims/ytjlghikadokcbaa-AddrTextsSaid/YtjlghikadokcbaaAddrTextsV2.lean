/-
  Calls of values alone of the law AddrTexts, part 2.
-/
import Derived.Test.YtjlghikadokcbaaAddrTextsV
namespace Go.Proofs.Ytjlghikadokcbaa
open Go.SX
theorem addrTexts_v1 : VMemo.ok cfgB 3000 addrTextsV1 = true := by kernel_rfl
theorem addrTexts_v7 : VMemo.ok cfgB 3000 addrTextsV7 = true := by kernel_rfl
theorem addrTexts_v13 : VMemo.ok cfgB 3000 addrTextsV13 = true := by kernel_rfl
theorem addrTexts_v19 : VMemo.ok cfgB 3000 addrTextsV19 = true := by kernel_rfl
theorem addrTexts_v25 : VMemo.ok cfgB 3000 addrTextsV25 = true := by kernel_rfl
end Go.Proofs.Ytjlghikadokcbaa
