/-
  The tables of the law WireNil, and the calls of it that were looked at once.
-/
import Derived.Test.YtcebclckjkiofaaRows
import Derived.ProofKit
import Derived.Test.YtcebclckjkiofaaSXH
namespace Go.Proofs.Ytcebclckjkiofaa
open Go.SX
def qT (f : Nat) : T := .cell 0 (.cell 1000000 (.lit 0) 18) f
def qB (f : Nat) : B := .cell 0 (.cell 1000000 (.lit 0) 18) f
theorem Try.own : ownKnob Try.prog.godebug = none := by kernel_rfl
theorem Try.laidOut : laidOutB Try.prog = true := by kernel_rfl
theorem Try.mixed : Try.prog.follows .mixedOrders = true := by kernel_rfl
noncomputable def cfg0 : Cfg := mkCfg Try.prog noHook (fun i => memB i []) (fun i => !(memB i [])) (fun i => !(memB i [])) (fun i => memB i [])
theorem cfg0_types : cfg0.Types := mkCfg_types _ _ _ _ _ _ Try.mixed
theorem cfg0_hooks : ∀ ρ, HookOk cfg0 ρ := noHook_ok _ _ _ _ _
def wireNilMem0 : Mem := memOf 1 [(0, (.cells true [(.int .i64 (.cell 1000000 (.lit (0)) 0)), (.int .i64 (.cell 1000000 (.lit (0)) 1))]))]
def wireNilMemo0 : Memo := ⟨21, [], wireNilMem0, [],
  [⟨[], wireNilMem0, .ret (.bool (.lit true))⟩]⟩
def wireNilMemos : List Memo := [wireNilMemo0]
noncomputable def cfg : Cfg := mkCfg Try.prog (memoHook wireNilMemos) (fun i => memB i []) (fun i => !(memB i [])) (fun i => !(memB i [])) (fun i => memB i [])
theorem cfg_prog : cfg.P = Try.checked.prog := by kernel_rfl
theorem cfg_types : cfg.Types := mkCfg_types _ _ _ _ _ _ Try.mixed
theorem wireNil_memo0 : Memo.ok cfg0 3000 wireNilMemo0 = true := by kernel_rfl
theorem wireNil_memos : ∀ e ∈ wireNilMemos, Memo.ok cfg0 3000 e = true := (List.forall_mem_cons.2 ⟨wireNil_memo0, (fun _ h => by cases h)⟩)
theorem cfg_hooks : ∀ ρ, HookOk cfg ρ := memoHook_ok cfg0_types cfg0_hooks (fuel := 3000) wireNil_memos (by kernel_rfl) (by kernel_rfl)
/-- one leaf, shown with the tables alone -/
theorem leaf_of {x : List Bool × PC} (h : leafGood cfg 3000 6 [50, 9] x = true) : LeafOk Try.checked.prog 6 [50, 9] x := ⟨cfg, 3000, cfg_prog, cfg_types, cfg_hooks, h⟩
/-- the tables, and memos that may write -/
noncomputable def cfgV (l : List MemoW) : Cfg := mkCfg Try.prog (memoWHook l) (fun i => memB i []) (fun i => !(memB i [])) (fun i => !(memB i [])) (fun i => memB i [])
def hookN : List (List MemoW) → Nat → List SV → Mem → PC → List Nat → Option (List COut)
  | [] => memoHook wireNilMemos
  | l :: r => orHook (hookN r) (memoWHook l)
noncomputable def cfgN (l : List (List MemoW)) : Cfg := mkCfg Try.prog (hookN l) (fun i => memB i []) (fun i => !(memB i [])) (fun i => !(memB i [])) (fun i => memB i [])
theorem cfgN_types {l : List (List MemoW)} : (cfgN l).Types := mkCfg_types _ _ _ _ _ _ Try.mixed
theorem cfgN_nil : ∀ ρ, HookOk (cfgN []) ρ := cfg_hooks
theorem cfgN_cons {l : List MemoW} {r : List (List MemoW)} (h : ∀ ρ, HookOk (cfgN r) ρ) (hl : ∀ e ∈ l, MemoW.ok (cfgN r) 3000 e = true) : ∀ ρ, HookOk (cfgN (l :: r)) ρ :=
  orHook_ok (C0 := cfgN r) (C1 := cfgV l) h (memoWHook_ok (C0 := cfgN r) cfgN_types h hl rfl rfl) rfl rfl rfl
theorem leaf_ofN {r : List (List MemoW)} (h : ∀ ρ, HookOk (cfgN r) ρ) {x : List Bool × PC} (hx : leafGood (cfgN r) 3000 6 [50, 9] x = true) : LeafOk Try.checked.prog 6 [50, 9] x :=
  ⟨cfgN r, 3000, cfg_prog, cfgN_types, h, hx⟩
end Go.Proofs.Ytcebclckjkiofaa
