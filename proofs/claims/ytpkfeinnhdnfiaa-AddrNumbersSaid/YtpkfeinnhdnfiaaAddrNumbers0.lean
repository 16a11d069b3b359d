/-
  The tables of the law AddrNumbers, and the calls of it that were looked at once.
-/
import Derived.Test.YtpkfeinnhdnfiaaAddrNumbersV1
import Derived.Test.YtpkfeinnhdnfiaaAddrNumbersV2
import Derived.Test.YtpkfeinnhdnfiaaAddrNumbersV3
import Derived.Test.YtpkfeinnhdnfiaaAddrNumbersV4
import Derived.Test.YtpkfeinnhdnfiaaAddrNumbersV5
import Derived.Test.YtpkfeinnhdnfiaaAddrNumbersV6
namespace Go.Proofs.Ytpkfeinnhdnfiaa
open Go.SX
theorem addrNumbers_vs : ∀ e ∈ addrNumbersVs, VMemo.ok cfgB 3000 e = true := (List.forall_mem_cons.2 ⟨addrNumbers_v0, (List.forall_mem_cons.2 ⟨addrNumbers_v1, (List.forall_mem_cons.2 ⟨addrNumbers_v2, (List.forall_mem_cons.2 ⟨addrNumbers_v3, (List.forall_mem_cons.2 ⟨addrNumbers_v4, (List.forall_mem_cons.2 ⟨addrNumbers_v5, (List.forall_mem_cons.2 ⟨addrNumbers_v6, (List.forall_mem_cons.2 ⟨addrNumbers_v7, (List.forall_mem_cons.2 ⟨addrNumbers_v8, (List.forall_mem_cons.2 ⟨addrNumbers_v9, (List.forall_mem_cons.2 ⟨addrNumbers_v10, (List.forall_mem_cons.2 ⟨addrNumbers_v11, (List.forall_mem_cons.2 ⟨addrNumbers_v12, (List.forall_mem_cons.2 ⟨addrNumbers_v13, (List.forall_mem_cons.2 ⟨addrNumbers_v14, (List.forall_mem_cons.2 ⟨addrNumbers_v15, (List.forall_mem_cons.2 ⟨addrNumbers_v16, (fun _ h => by cases h)⟩)⟩)⟩)⟩)⟩)⟩)⟩)⟩)⟩)⟩)⟩)⟩)⟩)⟩)⟩)⟩)⟩)
noncomputable def cfg0 : Cfg := mkCfg Try.prog (vHook addrNumbersVs) (fun i => memB i [600010, 700010]) (fun i => !(memB i [10])) (fun i => !(memB i [])) (fun i => memB i [])
theorem cfg0_types : cfg0.Types := mkCfg_types _ _ _ _ _ _ Try.mixed
theorem cfg0_hooks : ∀ ρ, HookOk cfg0 ρ := vHook_ok cfgB_types cfgB_hooks (fuel := 3000) addrNumbers_vs (by kernel_rfl) (by kernel_rfl)
def addrNumbersMem0 : Mem := memOf 2 [(0, (.cells true [(.int .u8 (.cell 1000000 (.lit (0)) 0)), (.int .u8 (.cell 1000000 (.lit (0)) 1)), (.int .u8 (.cell 1000000 (.lit (0)) 2)), (.int .u8 (.cell 1000000 (.lit (0)) 3)), (.int .u8 (.cell 1000000 (.lit (0)) 4)), (.int .u8 (.cell 1000000 (.lit (0)) 5))])),
   (1, (.cells true [(.int .u8 (.cell 1000000 (.lit (0)) 6)), (.int .u8 (.cell 1000000 (.lit (0)) 7)), (.int .u8 (.cell 1000000 (.lit (0)) 8)), (.int .u8 (.cell 1000000 (.lit (0)) 9)), (.int .u8 (.cell 1000000 (.lit (0)) 10)), (.int .u8 (.cell 1000000 (.lit (0)) 11))]))]
def addrNumbersMemo0 : Memo := ⟨16, [], addrNumbersMem0, [],
  [⟨[], addrNumbersMem0, .ret (.bool (.lit true))⟩]⟩
def addrNumbersMemos : List Memo := [addrNumbersMemo0]
noncomputable def cfg : Cfg := mkCfg Try.prog (memoHook2 (vHook addrNumbersVs) addrNumbersMemos) (fun i => memB i [600010, 700010]) (fun i => !(memB i [10])) (fun i => !(memB i [])) (fun i => memB i [])
theorem cfg_prog : cfg.P = Try.checked.prog := by kernel_rfl
theorem cfg_types : cfg.Types := mkCfg_types _ _ _ _ _ _ Try.mixed
theorem addrNumbers_memo0 : Memo.ok cfg0 3000 addrNumbersMemo0 = true := by kernel_rfl
theorem addrNumbers_memos : ∀ e ∈ addrNumbersMemos, Memo.ok cfg0 3000 e = true := (List.forall_mem_cons.2 ⟨addrNumbers_memo0, (fun _ h => by cases h)⟩)
theorem cfg_hooks : ∀ ρ, HookOk cfg ρ := memoHook2_ok (h0 := vHook addrNumbersVs) cfg0_types cfg0_hooks (by kernel_rfl) (fuel := 3000) addrNumbers_memos (by kernel_rfl) (by kernel_rfl)
/-- one leaf, shown with the tables alone -/
theorem leaf_of {x : List Bool × PC} (h : leafGood cfg 3000 10 [31, 31, 40] x = true) : LeafOk Try.checked.prog 10 [31, 31, 40] x := ⟨cfg, 3000, cfg_prog, cfg_types, cfg_hooks, h⟩
/-- the tables, and memos that may write -/
noncomputable def cfgV (l : List MemoW) : Cfg := mkCfg Try.prog (memoWHook l) (fun i => memB i [600010, 700010]) (fun i => !(memB i [10])) (fun i => !(memB i [])) (fun i => memB i [])
def hookN : List (List MemoW) → Nat → List SV → Mem → PC → List Nat → Option (List COut)
  | [] => memoHook2 (vHook addrNumbersVs) addrNumbersMemos
  | l :: r => orHook (hookN r) (memoWHook l)
noncomputable def cfgN (l : List (List MemoW)) : Cfg := mkCfg Try.prog (hookN l) (fun i => memB i [600010, 700010]) (fun i => !(memB i [10])) (fun i => !(memB i [])) (fun i => memB i [])
theorem cfgN_types {l : List (List MemoW)} : (cfgN l).Types := mkCfg_types _ _ _ _ _ _ Try.mixed
theorem cfgN_nil : ∀ ρ, HookOk (cfgN []) ρ := cfg_hooks
theorem cfgN_cons {l : List MemoW} {r : List (List MemoW)} (h : ∀ ρ, HookOk (cfgN r) ρ) (hl : ∀ e ∈ l, MemoW.ok (cfgN r) 3000 e = true) : ∀ ρ, HookOk (cfgN (l :: r)) ρ :=
  orHook_ok (C0 := cfgN r) (C1 := cfgV l) h (memoWHook_ok (C0 := cfgN r) cfgN_types h hl rfl rfl) rfl rfl rfl
theorem leaf_ofN {r : List (List MemoW)} (h : ∀ ρ, HookOk (cfgN r) ρ) {x : List Bool × PC} (hx : leafGood (cfgN r) 3000 10 [31, 31, 40] x = true) : LeafOk Try.checked.prog 10 [31, 31, 40] x :=
  ⟨cfgN r, 3000, cfg_prog, cfgN_types, h, hx⟩
end Go.Proofs.Ytpkfeinnhdnfiaa
