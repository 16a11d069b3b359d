/-
  Calls of values alone of the law AddrNumbers, part 2.
-/
import Derived.Test.YtpkfeinnhdnfiaaAddrNumbersV
namespace Go.Proofs.Ytpkfeinnhdnfiaa
open Go.SX
theorem addrNumbers_v1 : VMemo.ok cfgB 3000 addrNumbersV1 = true := by kernel_rfl
theorem addrNumbers_v7 : VMemo.ok cfgB 3000 addrNumbersV7 = true := by kernel_rfl
theorem addrNumbers_v13 : VMemo.ok cfgB 3000 addrNumbersV13 = true := by kernel_rfl
end Go.Proofs.Ytpkfeinnhdnfiaa
