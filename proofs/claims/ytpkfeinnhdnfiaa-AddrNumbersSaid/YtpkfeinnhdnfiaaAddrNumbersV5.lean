/-
  Calls of values alone of the law AddrNumbers, part 5.
-/
import Derived.Test.YtpkfeinnhdnfiaaAddrNumbersV
namespace Go.Proofs.Ytpkfeinnhdnfiaa
open Go.SX
theorem addrNumbers_v4 : VMemo.ok cfgB 3000 addrNumbersV4 = true := by kernel_rfl
theorem addrNumbers_v10 : VMemo.ok cfgB 3000 addrNumbersV10 = true := by kernel_rfl
theorem addrNumbers_v16 : VMemo.ok cfgB 3000 addrNumbersV16 = true := by kernel_rfl
end Go.Proofs.Ytpkfeinnhdnfiaa
