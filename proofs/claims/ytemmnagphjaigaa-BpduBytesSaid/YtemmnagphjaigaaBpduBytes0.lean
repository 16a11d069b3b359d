/-
  The tables of the law BpduBytes, and the calls of it that were looked at once.
-/
import Derived.Test.YtemmnagphjaigaaRows
import Derived.ProofKit
import Derived.Test.YtemmnagphjaigaaSXH
namespace Go.Proofs.Ytemmnagphjaigaa
open Go.SX
def qT (f : Nat) : T := .cell 0 (.cell 1000000 (.lit 0) 18) f
def qB (f : Nat) : B := .cell 0 (.cell 1000000 (.lit 0) 18) f
theorem Try.own : ownKnob Try.prog.godebug = none := by kernel_rfl
theorem Try.laidOut : laidOutB Try.prog = true := by kernel_rfl
theorem Try.mixed : Try.prog.follows .mixedOrders = true := by kernel_rfl
noncomputable def cfg0 : Cfg := mkCfg Try.prog noHook (fun i => memB i [600003, 700003]) (fun i => !(memB i [3])) (fun i => !(memB i [])) (fun i => memB i [])
theorem cfg0_types : cfg0.Types := mkCfg_types _ _ _ _ _ _ Try.mixed
theorem cfg0_hooks : ∀ ρ, HookOk cfg0 ρ := noHook_ok _ _ _ _ _
def bpduBytesMem0 : Mem := memOf 2 [(0, (.arr ⟨false, 0, 1, [(.i .u8)], (.var 0), none, 0, []⟩)),
   (1, (.cells true [(.int .i64 (.cell 1000000 (.lit (0)) 0)), (.int .u8 (.cell 1000000 (.lit (0)) 1)), (.int .u64 (.cell 1000000 (.lit (0)) 2)), (.int .u32 (.cell 1000000 (.lit (0)) 3)), (.int .u64 (.cell 1000000 (.lit (0)) 4)), (.int .u16 (.cell 1000000 (.lit (0)) 5)), (.int .u16 (.cell 1000000 (.lit (0)) 6)), (.int .u16 (.cell 1000000 (.lit (0)) 7)), (.int .u16 (.cell 1000000 (.lit (0)) 8)), (.int .u16 (.cell 1000000 (.lit (0)) 9))]))]
def bpduBytesMemo0 : Memo := ⟨7, [], bpduBytesMem0, [((.ltI (.var 0) (.lit (0))), false), ((.ltI (.lit (9223372036854775807)) (.var 0)), false)],
  [⟨[], bpduBytesMem0, .ret (.bool (.lit true))⟩]⟩
def bpduBytesMem1 : Mem := memOf 1 [(0, (.cells true [(.int .i64 (.cell 1000000 (.lit (0)) 0)), (.int .u8 (.cell 1000000 (.lit (0)) 1)), (.int .u64 (.cell 1000000 (.lit (0)) 2)), (.int .u32 (.cell 1000000 (.lit (0)) 3)), (.int .u64 (.cell 1000000 (.lit (0)) 4)), (.int .u16 (.cell 1000000 (.lit (0)) 5)), (.int .u16 (.cell 1000000 (.lit (0)) 6)), (.int .u16 (.cell 1000000 (.lit (0)) 7)), (.int .u16 (.cell 1000000 (.lit (0)) 8)), (.int .u16 (.cell 1000000 (.lit (0)) 9))]))]
def bpduBytesMemo1 : Memo := ⟨7, [], bpduBytesMem1, [],
  [⟨[], bpduBytesMem1, .ret (.bool (.lit true))⟩]⟩
def bpduBytesMemos : List Memo := [bpduBytesMemo0, bpduBytesMemo1]
noncomputable def cfg : Cfg := mkCfg Try.prog (memoHook bpduBytesMemos) (fun i => memB i [600003, 700003]) (fun i => !(memB i [3])) (fun i => !(memB i [])) (fun i => memB i [])
theorem cfg_prog : cfg.P = Try.checked.prog := by kernel_rfl
theorem cfg_types : cfg.Types := mkCfg_types _ _ _ _ _ _ Try.mixed
theorem bpduBytes_memo0 : Memo.ok cfg0 3000 bpduBytesMemo0 = true := by kernel_rfl
theorem bpduBytes_memo1 : Memo.ok cfg0 3000 bpduBytesMemo1 = true := by kernel_rfl
theorem bpduBytes_memos : ∀ e ∈ bpduBytesMemos, Memo.ok cfg0 3000 e = true := (List.forall_mem_cons.2 ⟨bpduBytes_memo0, (List.forall_mem_cons.2 ⟨bpduBytes_memo1, (fun _ h => by cases h)⟩)⟩)
theorem cfg_hooks : ∀ ρ, HookOk cfg ρ := memoHook_ok cfg0_types cfg0_hooks (fuel := 3000) bpduBytes_memos (by kernel_rfl) (by kernel_rfl)
/-- one leaf, shown with the tables alone -/
theorem leaf_of {x : List Bool × PC} (h : leafGood cfg 3000 3 [31, 32] x = true) : LeafOk Try.checked.prog 3 [31, 32] x := ⟨cfg, 3000, cfg_prog, cfg_types, cfg_hooks, h⟩
/-- the tables, and memos that may write -/
noncomputable def cfgV (l : List MemoW) : Cfg := mkCfg Try.prog (memoWHook l) (fun i => memB i [600003, 700003]) (fun i => !(memB i [3])) (fun i => !(memB i [])) (fun i => memB i [])
def hookN : List (List MemoW) → Nat → List SV → Mem → PC → List Nat → Option (List COut)
  | [] => memoHook bpduBytesMemos
  | l :: r => orHook (hookN r) (memoWHook l)
noncomputable def cfgN (l : List (List MemoW)) : Cfg := mkCfg Try.prog (hookN l) (fun i => memB i [600003, 700003]) (fun i => !(memB i [3])) (fun i => !(memB i [])) (fun i => memB i [])
theorem cfgN_types {l : List (List MemoW)} : (cfgN l).Types := mkCfg_types _ _ _ _ _ _ Try.mixed
theorem cfgN_nil : ∀ ρ, HookOk (cfgN []) ρ := cfg_hooks
theorem cfgN_cons {l : List MemoW} {r : List (List MemoW)} (h : ∀ ρ, HookOk (cfgN r) ρ) (hl : ∀ e ∈ l, MemoW.ok (cfgN r) 3000 e = true) : ∀ ρ, HookOk (cfgN (l :: r)) ρ :=
  orHook_ok (C0 := cfgN r) (C1 := cfgV l) h (memoWHook_ok (C0 := cfgN r) cfgN_types h hl rfl rfl) rfl rfl rfl
theorem leaf_ofN {r : List (List MemoW)} (h : ∀ ρ, HookOk (cfgN r) ρ) {x : List Bool × PC} (hx : leafGood (cfgN r) 3000 3 [31, 32] x = true) : LeafOk Try.checked.prog 3 [31, 32] x :=
  ⟨cfgN r, 3000, cfg_prog, cfgN_types, h, hx⟩
end Go.Proofs.Ytemmnagphjaigaa
