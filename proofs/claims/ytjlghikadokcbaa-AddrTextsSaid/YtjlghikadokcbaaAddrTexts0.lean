/-
  The tables of the law AddrTexts, and the calls of it that were looked at once.
-/
import Derived.Test.YtjlghikadokcbaaAddrTextsV1
import Derived.Test.YtjlghikadokcbaaAddrTextsV2
import Derived.Test.YtjlghikadokcbaaAddrTextsV3
import Derived.Test.YtjlghikadokcbaaAddrTextsV4
import Derived.Test.YtjlghikadokcbaaAddrTextsV5
import Derived.Test.YtjlghikadokcbaaAddrTextsV6
namespace Go.Proofs.Ytjlghikadokcbaa
open Go.SX
theorem addrTexts_vs : ∀ e ∈ addrTextsVs, VMemo.ok cfgB 3000 e = true := (List.forall_mem_cons.2 ⟨addrTexts_v0, (List.forall_mem_cons.2 ⟨addrTexts_v1, (List.forall_mem_cons.2 ⟨addrTexts_v2, (List.forall_mem_cons.2 ⟨addrTexts_v3, (List.forall_mem_cons.2 ⟨addrTexts_v4, (List.forall_mem_cons.2 ⟨addrTexts_v5, (List.forall_mem_cons.2 ⟨addrTexts_v6, (List.forall_mem_cons.2 ⟨addrTexts_v7, (List.forall_mem_cons.2 ⟨addrTexts_v8, (List.forall_mem_cons.2 ⟨addrTexts_v9, (List.forall_mem_cons.2 ⟨addrTexts_v10, (List.forall_mem_cons.2 ⟨addrTexts_v11, (List.forall_mem_cons.2 ⟨addrTexts_v12, (List.forall_mem_cons.2 ⟨addrTexts_v13, (List.forall_mem_cons.2 ⟨addrTexts_v14, (List.forall_mem_cons.2 ⟨addrTexts_v15, (List.forall_mem_cons.2 ⟨addrTexts_v16, (List.forall_mem_cons.2 ⟨addrTexts_v17, (List.forall_mem_cons.2 ⟨addrTexts_v18, (List.forall_mem_cons.2 ⟨addrTexts_v19, (List.forall_mem_cons.2 ⟨addrTexts_v20, (List.forall_mem_cons.2 ⟨addrTexts_v21, (List.forall_mem_cons.2 ⟨addrTexts_v22, (List.forall_mem_cons.2 ⟨addrTexts_v23, (List.forall_mem_cons.2 ⟨addrTexts_v24, (List.forall_mem_cons.2 ⟨addrTexts_v25, (List.forall_mem_cons.2 ⟨addrTexts_v26, (List.forall_mem_cons.2 ⟨addrTexts_v27, (List.forall_mem_cons.2 ⟨addrTexts_v28, (fun _ h => by cases h)⟩)⟩)⟩)⟩)⟩)⟩)⟩)⟩)⟩)⟩)⟩)⟩)⟩)⟩)⟩)⟩)⟩)⟩)⟩)⟩)⟩)⟩)⟩)⟩)⟩)⟩)⟩)⟩)⟩)
noncomputable def cfg0 : Cfg := mkCfg Try.prog (vHook addrTextsVs) (fun i => memB i [900000, 800008, 800006, 800007, 600007, 600003, 700006, 700007, 700003]) (fun i => !(memB i [6, 7, 3])) (fun i => !(memB i [])) (fun i => memB i [])
theorem cfg0_types : cfg0.Types := mkCfg_types _ _ _ _ _ _ Try.mixed
theorem cfg0_hooks : ∀ ρ, HookOk cfg0 ρ := vHook_ok cfgB_types cfgB_hooks (fuel := 3000) addrTexts_vs (by kernel_rfl) (by kernel_rfl)
def addrTextsMem0 : Mem := memOf 0 []
def addrTextsMemo0 : Memo := ⟨5, [], addrTextsMem0, [],
  [⟨[], addrTextsMem0, .ret (.bool (.lit true))⟩]⟩
def addrTextsMemos : List Memo := [addrTextsMemo0]
noncomputable def cfg : Cfg := mkCfg Try.prog (memoHook2 (vHook addrTextsVs) addrTextsMemos) (fun i => memB i [900000, 800008, 800006, 800007, 600007, 600003, 700006, 700007, 700003]) (fun i => !(memB i [6, 7, 3])) (fun i => !(memB i [])) (fun i => memB i [])
theorem cfg_prog : cfg.P = Try.checked.prog := by kernel_rfl
theorem cfg_types : cfg.Types := mkCfg_types _ _ _ _ _ _ Try.mixed
theorem addrTexts_memo0 : Memo.ok cfg0 3000 addrTextsMemo0 = true := by kernel_rfl
theorem addrTexts_memos : ∀ e ∈ addrTextsMemos, Memo.ok cfg0 3000 e = true := (List.forall_mem_cons.2 ⟨addrTexts_memo0, (fun _ h => by cases h)⟩)
theorem cfg_hooks : ∀ ρ, HookOk cfg ρ := memoHook2_ok (h0 := vHook addrTextsVs) cfg0_types cfg0_hooks (by kernel_rfl) (fuel := 3000) addrTexts_memos (by kernel_rfl) (by kernel_rfl)
/-- one leaf, shown with the tables alone -/
theorem leaf_of {x : List Bool × PC} (h : leafGood cfg 3000 3 [9] x = true) : LeafOk Try.checked.prog 3 [9] x := ⟨cfg, 3000, cfg_prog, cfg_types, cfg_hooks, h⟩
/-- the tables, and memos that may write -/
noncomputable def cfgV (l : List MemoW) : Cfg := mkCfg Try.prog (memoWHook l) (fun i => memB i [900000, 800008, 800006, 800007, 600007, 600003, 700006, 700007, 700003]) (fun i => !(memB i [6, 7, 3])) (fun i => !(memB i [])) (fun i => memB i [])
def hookN : List (List MemoW) → Nat → List SV → Mem → PC → List Nat → Option (List COut)
  | [] => memoHook2 (vHook addrTextsVs) addrTextsMemos
  | l :: r => orHook (hookN r) (memoWHook l)
noncomputable def cfgN (l : List (List MemoW)) : Cfg := mkCfg Try.prog (hookN l) (fun i => memB i [900000, 800008, 800006, 800007, 600007, 600003, 700006, 700007, 700003]) (fun i => !(memB i [6, 7, 3])) (fun i => !(memB i [])) (fun i => memB i [])
theorem cfgN_types {l : List (List MemoW)} : (cfgN l).Types := mkCfg_types _ _ _ _ _ _ Try.mixed
theorem cfgN_nil : ∀ ρ, HookOk (cfgN []) ρ := cfg_hooks
theorem cfgN_cons {l : List MemoW} {r : List (List MemoW)} (h : ∀ ρ, HookOk (cfgN r) ρ) (hl : ∀ e ∈ l, MemoW.ok (cfgN r) 3000 e = true) : ∀ ρ, HookOk (cfgN (l :: r)) ρ :=
  orHook_ok (C0 := cfgN r) (C1 := cfgV l) h (memoWHook_ok (C0 := cfgN r) cfgN_types h hl rfl rfl) rfl rfl rfl
theorem leaf_ofN {r : List (List MemoW)} (h : ∀ ρ, HookOk (cfgN r) ρ) {x : List Bool × PC} (hx : leafGood (cfgN r) 3000 3 [9] x = true) : LeafOk Try.checked.prog 3 [9] x :=
  ⟨cfgN r, 3000, cfg_prog, cfgN_types, h, hx⟩
end Go.Proofs.Ytjlghikadokcbaa
