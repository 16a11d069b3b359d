/-
  The tables of the law IdentBridges, and the calls of it that were looked at once.
-/
import Derived.Test.YtlpjldhkkjicgaaDoorIdentBridgesV1
import Derived.Test.YtlpjldhkkjicgaaDoorIdentBridgesV2
import Derived.Test.YtlpjldhkkjicgaaDoorIdentBridgesV3
import Derived.Test.YtlpjldhkkjicgaaDoorIdentBridgesV4
import Derived.Test.YtlpjldhkkjicgaaDoorIdentBridgesV5
import Derived.Test.YtlpjldhkkjicgaaDoorIdentBridgesV6
namespace Go.Proofs.YtlpjldhkkjicgaaDoor
open Go.SX
theorem identBridges_vs : ∀ e ∈ identBridgesVs, VMemo.ok cfgB 3000 e = true := (List.forall_mem_cons.2 ⟨identBridges_v0, (List.forall_mem_cons.2 ⟨identBridges_v1, (List.forall_mem_cons.2 ⟨identBridges_v2, (List.forall_mem_cons.2 ⟨identBridges_v3, (List.forall_mem_cons.2 ⟨identBridges_v4, (List.forall_mem_cons.2 ⟨identBridges_v5, (List.forall_mem_cons.2 ⟨identBridges_v6, (List.forall_mem_cons.2 ⟨identBridges_v7, (List.forall_mem_cons.2 ⟨identBridges_v8, (List.forall_mem_cons.2 ⟨identBridges_v9, (List.forall_mem_cons.2 ⟨identBridges_v10, (List.forall_mem_cons.2 ⟨identBridges_v11, (fun _ h => by cases h)⟩)⟩)⟩)⟩)⟩)⟩)⟩)⟩)⟩)⟩)⟩)⟩)
noncomputable def cfg0 : Cfg := mkX (vHook identBridgesVs) (fun i => memB i [600005, 600047, 600034, 600022, 600012, 700005, 700047, 700034, 700022, 700012]) (fun i => !(memB i [5, 47, 34, 22, 12])) (fun i => !(memB i [])) (fun i => memB i [])
theorem cfg0_types : cfg0.Types := mkX_types
theorem cfg0_hooks : ∀ ρ, HookOk cfg0 ρ := vHook_ok cfgB_types cfgB_hooks (fuel := 3000) identBridges_vs (by kernel_rfl) (by kernel_rfl)
def identBridgesMem0 : Mem := memOf 2 [(0, (.glob 5 [(.u8, 0), (.u8, 1), (.u8, 56), (.u8, 2), (.u8, 57), (.u8, 49), (.u8, 28), (.u8, 3), (.u8, 61), (.u8, 58), (.u8, 42), (.u8, 50), (.u8, 38), (.u8, 29), (.u8, 17), (.u8, 4), (.u8, 62), (.u8, 47), (.u8, 59), (.u8, 36), (.u8, 45), (.u8, 43), (.u8, 51), (.u8, 22), (.u8, 53), (.u8, 39), (.u8, 33), (.u8, 30), (.u8, 24), (.u8, 18), (.u8, 12), (.u8, 5), (.u8, 63), (.u8, 55), (.u8, 48), (.u8, 27), (.u8, 60), (.u8, 41), (.u8, 37), (.u8, 16), (.u8, 46), (.u8, 35), (.u8, 44), (.u8, 21), (.u8, 52), (.u8, 32), (.u8, 23), (.u8, 11), (.u8, 54), (.u8, 26), (.u8, 40), (.u8, 15), (.u8, 34), (.u8, 20), (.u8, 31), (.u8, 10), (.u8, 25), (.u8, 14), (.u8, 19), (.u8, 9), (.u8, 13), (.u8, 8), (.u8, 7), (.u8, 6)])),
   (1, (.cells true [(.int .u8 (.cell 1000000 (.lit (0)) 1)), (.int .u8 (.cell 1000000 (.lit (0)) 2)), (.int .u8 (.cell 1000000 (.lit (0)) 3)), (.int .u8 (.cell 1000000 (.lit (0)) 4)), (.int .u8 (.cell 1000000 (.lit (0)) 5)), (.int .u8 (.cell 1000000 (.lit (0)) 6))]))]
def identBridgesMemo0 : Memo := ⟨6, [], identBridgesMem0, [],
  [⟨[], identBridgesMem0, .ret (.bool (.lit true))⟩]⟩
def identBridgesMemos : List Memo := [identBridgesMemo0]
noncomputable def cfg : Cfg := mkX (memoHook2 (vHook identBridgesVs) identBridgesMemos) (fun i => memB i [600005, 600047, 600034, 600022, 600012, 700005, 700047, 700034, 700022, 700012]) (fun i => !(memB i [5, 47, 34, 22, 12])) (fun i => !(memB i [])) (fun i => memB i [])
theorem cfg_prog : cfg.P = Tryd.checked.prog := by kernel_rfl
theorem cfg_types : cfg.Types := mkX_types
theorem identBridges_memo0 : Memo.ok cfg0 3000 identBridgesMemo0 = true := by kernel_rfl
theorem identBridges_memos : ∀ e ∈ identBridgesMemos, Memo.ok cfg0 3000 e = true := (List.forall_mem_cons.2 ⟨identBridges_memo0, (fun _ h => by cases h)⟩)
theorem cfg_hooks : ∀ ρ, HookOk cfg ρ := memoHook2_ok (h0 := vHook identBridgesVs) cfg0_types cfg0_hooks (by kernel_rfl) (fuel := 3000) identBridges_memos (by kernel_rfl) (by kernel_rfl)
/-- one leaf, shown with the tables alone -/
theorem leaf_of {x : List Bool × PC} (h : leafGoodG cfg tabs 3000 5 [3, 39, 30] x = true) : LeafOkG Tryd.checked.prog tabs 5 [3, 39, 30] x := ⟨cfg, 3000, cfg_prog, cfg_types, cfg_hooks, h⟩
/-- the tables, and memos that may write -/
noncomputable def cfgV (l : List MemoW) : Cfg := mkX (memoWHook l) (fun i => memB i [600005, 600047, 600034, 600022, 600012, 700005, 700047, 700034, 700022, 700012]) (fun i => !(memB i [5, 47, 34, 22, 12])) (fun i => !(memB i [])) (fun i => memB i [])
def hookN : List (List MemoW) → Nat → List SV → Mem → PC → List Nat → Option (List COut)
  | [] => memoHook2 (vHook identBridgesVs) identBridgesMemos
  | l :: r => orHook (hookN r) (memoWHook l)
noncomputable def cfgN (l : List (List MemoW)) : Cfg := mkX (hookN l) (fun i => memB i [600005, 600047, 600034, 600022, 600012, 700005, 700047, 700034, 700022, 700012]) (fun i => !(memB i [5, 47, 34, 22, 12])) (fun i => !(memB i [])) (fun i => memB i [])
theorem cfgN_types {l : List (List MemoW)} : (cfgN l).Types := mkX_types
theorem cfgN_nil : ∀ ρ, HookOk (cfgN []) ρ := cfg_hooks
theorem cfgN_cons {l : List MemoW} {r : List (List MemoW)} (h : ∀ ρ, HookOk (cfgN r) ρ) (hl : ∀ e ∈ l, MemoW.ok (cfgN r) 3000 e = true) : ∀ ρ, HookOk (cfgN (l :: r)) ρ :=
  orHook_ok (C0 := cfgN r) (C1 := cfgV l) h (memoWHook_ok (C0 := cfgN r) cfgN_types h hl rfl rfl) rfl rfl rfl
theorem leaf_ofN {r : List (List MemoW)} (h : ∀ ρ, HookOk (cfgN r) ρ) {x : List Bool × PC} (hx : leafGoodG (cfgN r) tabs 3000 5 [3, 39, 30] x = true) : LeafOkG Tryd.checked.prog tabs 5 [3, 39, 30] x :=
  ⟨cfgN r, 3000, cfg_prog, cfgN_types, h, hx⟩
end Go.Proofs.YtlpjldhkkjicgaaDoor
