/-
  Calls of values alone of the law AddrNumbers, part 4.
-/
import Derived.Test.YtpkfeinnhdnfiaaAddrNumbersV
namespace Go.Proofs.Ytpkfeinnhdnfiaa
open Go.SX
theorem addrNumbers_v3 : VMemo.ok cfgB 3000 addrNumbersV3 = true := by kernel_rfl
theorem addrNumbers_v9 : VMemo.ok cfgB 3000 addrNumbersV9 = true := by kernel_rfl
theorem addrNumbers_v15 : VMemo.ok cfgB 3000 addrNumbersV15 = true := by kernel_rfl
end Go.Proofs.Ytpkfeinnhdnfiaa
