/-
  The tables of the law BpduRoles, and the calls of it that were looked at once.
-/
import Derived.Test.YtpkfeinnhdnfiaaRows
import Derived.ProofKit
import Derived.Test.YtpkfeinnhdnfiaaSXMemo
namespace Go.Proofs.Ytpkfeinnhdnfiaa
open Go.SX
theorem Try.own : ownKnob Try.prog.godebug = none := by kernel_rfl
theorem Try.laidOut : laidOutB Try.prog = true := by kernel_rfl
theorem Try.mixed : Try.prog.follows .mixedOrders = true := by kernel_rfl
noncomputable def cfg0 : Cfg := mkCfg Try.prog noHook (fun i => memB i []) (fun i => memB i []) (fun i => memB i []) (fun i => memB i [])
theorem cfg0_types : cfg0.Types := mkCfg_types _ _ _ _ _ _ Try.mixed
theorem cfg0_hooks : ∀ ρ, HookOk cfg0 ρ := noHook_ok _ _ _ _ _

def bpduRolesMemos : List Memo := []
noncomputable def cfg : Cfg := mkCfg Try.prog (memoHook bpduRolesMemos) (fun i => memB i []) (fun i => memB i []) (fun i => memB i []) (fun i => memB i [])
theorem cfg_prog : cfg.P = Try.checked.prog := by kernel_rfl
theorem cfg_types : cfg.Types := mkCfg_types _ _ _ _ _ _ Try.mixed
theorem bpduRoles_memos : ∀ e ∈ bpduRolesMemos, Memo.ok cfg0 3000 e = true := (fun _ h => by cases h)
theorem cfg_hooks : ∀ ρ, HookOk cfg ρ := memoHook_ok cfg0_types cfg0_hooks (fuel := 3000) bpduRoles_memos (by kernel_rfl) (by kernel_rfl)
end Go.Proofs.Ytpkfeinnhdnfiaa
