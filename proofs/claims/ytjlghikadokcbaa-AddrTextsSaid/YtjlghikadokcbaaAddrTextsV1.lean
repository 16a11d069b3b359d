/-
  Calls of values alone of the law AddrTexts, part 1.
-/
import Derived.Test.YtjlghikadokcbaaAddrTextsV
namespace Go.Proofs.Ytjlghikadokcbaa
open Go.SX
theorem addrTexts_v0 : VMemo.ok cfgB 3000 addrTextsV0 = true := by kernel_rfl
theorem addrTexts_v6 : VMemo.ok cfgB 3000 addrTextsV6 = true := by kernel_rfl
theorem addrTexts_v12 : VMemo.ok cfgB 3000 addrTextsV12 = true := by kernel_rfl
theorem addrTexts_v18 : VMemo.ok cfgB 3000 addrTextsV18 = true := by kernel_rfl
theorem addrTexts_v24 : VMemo.ok cfgB 3000 addrTextsV24 = true := by kernel_rfl
end Go.Proofs.Ytjlghikadokcbaa
