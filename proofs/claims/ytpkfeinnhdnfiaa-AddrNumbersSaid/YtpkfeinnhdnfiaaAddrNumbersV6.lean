/-
  Calls of values alone of the law AddrNumbers, part 6.
-/
import Derived.Test.YtpkfeinnhdnfiaaAddrNumbersV
namespace Go.Proofs.Ytpkfeinnhdnfiaa
open Go.SX
theorem addrNumbers_v5 : VMemo.ok cfgB 3000 addrNumbersV5 = true := by kernel_rfl
theorem addrNumbers_v11 : VMemo.ok cfgB 3000 addrNumbersV11 = true := by kernel_rfl
end Go.Proofs.Ytpkfeinnhdnfiaa
