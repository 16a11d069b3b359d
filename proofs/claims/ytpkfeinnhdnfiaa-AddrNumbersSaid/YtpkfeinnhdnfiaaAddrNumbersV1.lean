/-
  Calls of values alone of the law AddrNumbers, part 1.
-/
import Derived.Test.YtpkfeinnhdnfiaaAddrNumbersV
namespace Go.Proofs.Ytpkfeinnhdnfiaa
open Go.SX
theorem addrNumbers_v0 : VMemo.ok cfgB 3000 addrNumbersV0 = true := by kernel_rfl
theorem addrNumbers_v6 : VMemo.ok cfgB 3000 addrNumbersV6 = true := by kernel_rfl
theorem addrNumbers_v12 : VMemo.ok cfgB 3000 addrNumbersV12 = true := by kernel_rfl
end Go.Proofs.Ytpkfeinnhdnfiaa
