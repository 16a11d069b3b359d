/-
  The calls of values alone of the law AddrNumbers.
-/
import Derived.Test.YtpkfeinnhdnfiaaRows
import Derived.ProofKit
import Derived.Test.YtpkfeinnhdnfiaaSXG
namespace Go.Proofs.Ytpkfeinnhdnfiaa
open Go.SX
def qT (f : Nat) : T := .cell 0 (.cell 1000000 (.lit 0) 18) f
def qB (f : Nat) : B := .cell 0 (.cell 1000000 (.lit 0) 18) f
theorem Try.own : ownKnob Try.prog.godebug = none := by kernel_rfl
theorem Try.laidOut : laidOutB Try.prog = true := by kernel_rfl
theorem Try.mixed : Try.prog.follows .mixedOrders = true := by kernel_rfl
noncomputable def cfgB : Cfg := mkCfg Try.prog noHook (fun i => memB i [600010, 700010]) (fun i => !(memB i [10])) (fun i => !(memB i [])) (fun i => memB i [])
theorem cfgB_types : cfgB.Types := mkCfg_types _ _ _ _ _ _ Try.mixed
theorem cfgB_hooks : ∀ ρ, HookOk cfgB ρ := noHook_ok _ _ _ _ _
def addrNumbersV0 : VMemo := ⟨66, [(.int .u8 (.lit (48)))], [([], (.int .u8 (.lit (0))))]⟩
def addrNumbersV1 : VMemo := ⟨66, [(.int .u8 (.lit (49)))], [([], (.int .u8 (.lit (1))))]⟩
def addrNumbersV2 : VMemo := ⟨66, [(.int .u8 (.lit (56)))], [([], (.int .u8 (.lit (8))))]⟩
def addrNumbersV3 : VMemo := ⟨66, [(.int .u8 (.lit (99)))], [([], (.int .u8 (.lit (12))))]⟩
def addrNumbersV4 : VMemo := ⟨66, [(.int .u8 (.lit (50)))], [([], (.int .u8 (.lit (2))))]⟩
def addrNumbersV5 : VMemo := ⟨66, [(.int .u8 (.ite (.ltI (.bin .quo (.wrap .u8 (.cell 1000000 (.lit (0)) 0)) (.lit (16))) (.lit (10))) (.bin .add (.bin .quo (.wrap .u8 (.cell 1000000 (.lit (0)) 0)) (.lit (16))) (.lit (48))) (.bin .add (.bin .quo (.wrap .u8 (.cell 1000000 (.lit (0)) 0)) (.lit (16))) (.lit (87)))))], [([], (.int .u8 (.bin .quo (.wrap .u8 (.cell 1000000 (.lit (0)) 0)) (.lit (16)))))]⟩
def addrNumbersV6 : VMemo := ⟨66, [(.int .u8 (.ite (.ltI (.bin .rem (.wrap .u8 (.cell 1000000 (.lit (0)) 0)) (.lit (16))) (.lit (10))) (.bin .add (.bin .rem (.wrap .u8 (.cell 1000000 (.lit (0)) 0)) (.lit (16))) (.lit (48))) (.bin .add (.bin .rem (.wrap .u8 (.cell 1000000 (.lit (0)) 0)) (.lit (16))) (.lit (87)))))], [([], (.int .u8 (.bin .rem (.wrap .u8 (.cell 1000000 (.lit (0)) 0)) (.lit (16)))))]⟩
def addrNumbersV7 : VMemo := ⟨66, [(.int .u8 (.ite (.ltI (.bin .quo (.wrap .u8 (.cell 1000000 (.lit (0)) 1)) (.lit (16))) (.lit (10))) (.bin .add (.bin .quo (.wrap .u8 (.cell 1000000 (.lit (0)) 1)) (.lit (16))) (.lit (48))) (.bin .add (.bin .quo (.wrap .u8 (.cell 1000000 (.lit (0)) 1)) (.lit (16))) (.lit (87)))))], [([], (.int .u8 (.bin .quo (.wrap .u8 (.cell 1000000 (.lit (0)) 1)) (.lit (16)))))]⟩
def addrNumbersV8 : VMemo := ⟨66, [(.int .u8 (.ite (.ltI (.bin .rem (.wrap .u8 (.cell 1000000 (.lit (0)) 1)) (.lit (16))) (.lit (10))) (.bin .add (.bin .rem (.wrap .u8 (.cell 1000000 (.lit (0)) 1)) (.lit (16))) (.lit (48))) (.bin .add (.bin .rem (.wrap .u8 (.cell 1000000 (.lit (0)) 1)) (.lit (16))) (.lit (87)))))], [([], (.int .u8 (.bin .rem (.wrap .u8 (.cell 1000000 (.lit (0)) 1)) (.lit (16)))))]⟩
def addrNumbersV9 : VMemo := ⟨66, [(.int .u8 (.ite (.ltI (.bin .quo (.wrap .u8 (.cell 1000000 (.lit (0)) 2)) (.lit (16))) (.lit (10))) (.bin .add (.bin .quo (.wrap .u8 (.cell 1000000 (.lit (0)) 2)) (.lit (16))) (.lit (48))) (.bin .add (.bin .quo (.wrap .u8 (.cell 1000000 (.lit (0)) 2)) (.lit (16))) (.lit (87)))))], [([], (.int .u8 (.bin .quo (.wrap .u8 (.cell 1000000 (.lit (0)) 2)) (.lit (16)))))]⟩
def addrNumbersV10 : VMemo := ⟨66, [(.int .u8 (.ite (.ltI (.bin .rem (.wrap .u8 (.cell 1000000 (.lit (0)) 2)) (.lit (16))) (.lit (10))) (.bin .add (.bin .rem (.wrap .u8 (.cell 1000000 (.lit (0)) 2)) (.lit (16))) (.lit (48))) (.bin .add (.bin .rem (.wrap .u8 (.cell 1000000 (.lit (0)) 2)) (.lit (16))) (.lit (87)))))], [([], (.int .u8 (.bin .rem (.wrap .u8 (.cell 1000000 (.lit (0)) 2)) (.lit (16)))))]⟩
def addrNumbersV11 : VMemo := ⟨66, [(.int .u8 (.ite (.ltI (.bin .quo (.wrap .u8 (.cell 1000000 (.lit (0)) 3)) (.lit (16))) (.lit (10))) (.bin .add (.bin .quo (.wrap .u8 (.cell 1000000 (.lit (0)) 3)) (.lit (16))) (.lit (48))) (.bin .add (.bin .quo (.wrap .u8 (.cell 1000000 (.lit (0)) 3)) (.lit (16))) (.lit (87)))))], [([], (.int .u8 (.bin .quo (.wrap .u8 (.cell 1000000 (.lit (0)) 3)) (.lit (16)))))]⟩
def addrNumbersV12 : VMemo := ⟨66, [(.int .u8 (.ite (.ltI (.bin .rem (.wrap .u8 (.cell 1000000 (.lit (0)) 3)) (.lit (16))) (.lit (10))) (.bin .add (.bin .rem (.wrap .u8 (.cell 1000000 (.lit (0)) 3)) (.lit (16))) (.lit (48))) (.bin .add (.bin .rem (.wrap .u8 (.cell 1000000 (.lit (0)) 3)) (.lit (16))) (.lit (87)))))], [([], (.int .u8 (.bin .rem (.wrap .u8 (.cell 1000000 (.lit (0)) 3)) (.lit (16)))))]⟩
def addrNumbersV13 : VMemo := ⟨66, [(.int .u8 (.ite (.ltI (.bin .quo (.wrap .u8 (.cell 1000000 (.lit (0)) 4)) (.lit (16))) (.lit (10))) (.bin .add (.bin .quo (.wrap .u8 (.cell 1000000 (.lit (0)) 4)) (.lit (16))) (.lit (48))) (.bin .add (.bin .quo (.wrap .u8 (.cell 1000000 (.lit (0)) 4)) (.lit (16))) (.lit (87)))))], [([], (.int .u8 (.bin .quo (.wrap .u8 (.cell 1000000 (.lit (0)) 4)) (.lit (16)))))]⟩
def addrNumbersV14 : VMemo := ⟨66, [(.int .u8 (.ite (.ltI (.bin .rem (.wrap .u8 (.cell 1000000 (.lit (0)) 4)) (.lit (16))) (.lit (10))) (.bin .add (.bin .rem (.wrap .u8 (.cell 1000000 (.lit (0)) 4)) (.lit (16))) (.lit (48))) (.bin .add (.bin .rem (.wrap .u8 (.cell 1000000 (.lit (0)) 4)) (.lit (16))) (.lit (87)))))], [([], (.int .u8 (.bin .rem (.wrap .u8 (.cell 1000000 (.lit (0)) 4)) (.lit (16)))))]⟩
def addrNumbersV15 : VMemo := ⟨66, [(.int .u8 (.ite (.ltI (.bin .quo (.wrap .u8 (.cell 1000000 (.lit (0)) 5)) (.lit (16))) (.lit (10))) (.bin .add (.bin .quo (.wrap .u8 (.cell 1000000 (.lit (0)) 5)) (.lit (16))) (.lit (48))) (.bin .add (.bin .quo (.wrap .u8 (.cell 1000000 (.lit (0)) 5)) (.lit (16))) (.lit (87)))))], [([], (.int .u8 (.bin .quo (.wrap .u8 (.cell 1000000 (.lit (0)) 5)) (.lit (16)))))]⟩
def addrNumbersV16 : VMemo := ⟨66, [(.int .u8 (.ite (.ltI (.bin .rem (.wrap .u8 (.cell 1000000 (.lit (0)) 5)) (.lit (16))) (.lit (10))) (.bin .add (.bin .rem (.wrap .u8 (.cell 1000000 (.lit (0)) 5)) (.lit (16))) (.lit (48))) (.bin .add (.bin .rem (.wrap .u8 (.cell 1000000 (.lit (0)) 5)) (.lit (16))) (.lit (87)))))], [([], (.int .u8 (.bin .rem (.wrap .u8 (.cell 1000000 (.lit (0)) 5)) (.lit (16)))))]⟩
def addrNumbersVs : List VMemo := [addrNumbersV0, addrNumbersV1, addrNumbersV2, addrNumbersV3, addrNumbersV4, addrNumbersV5, addrNumbersV6, addrNumbersV7, addrNumbersV8, addrNumbersV9, addrNumbersV10, addrNumbersV11, addrNumbersV12, addrNumbersV13, addrNumbersV14, addrNumbersV15, addrNumbersV16]
end Go.Proofs.Ytpkfeinnhdnfiaa
