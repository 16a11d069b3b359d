/-
  Calls of values alone of the law AddrNumbers, part 3.
-/
import Derived.Test.YtpkfeinnhdnfiaaAddrNumbersV
namespace Go.Proofs.Ytpkfeinnhdnfiaa
open Go.SX
theorem addrNumbers_v2 : VMemo.ok cfgB 3000 addrNumbersV2 = true := by kernel_rfl
theorem addrNumbers_v8 : VMemo.ok cfgB 3000 addrNumbersV8 = true := by kernel_rfl
theorem addrNumbers_v14 : VMemo.ok cfgB 3000 addrNumbersV14 = true := by kernel_rfl
end Go.Proofs.Ytpkfeinnhdnfiaa
