/-
  The tables of the law EtherReads, and the calls of it that were looked at once.
-/
import Derived.Test.YtemmnagphjaigaaRows
import Derived.ProofKit
import Derived.Test.YtemmnagphjaigaaSXH
namespace Go.Proofs.Ytemmnagphjaigaa
open Go.SX
def qT (f : Nat) : T := .cell 0 (.cell 1000000 (.lit 0) 18) f
def qB (f : Nat) : B := .cell 0 (.cell 1000000 (.lit 0) 18) f
theorem Try.own : ownKnob Try.prog.godebug = none := by kernel_rfl
theorem Try.laidOut : laidOutB Try.prog = true := by kernel_rfl
theorem Try.mixed : Try.prog.follows .mixedOrders = true := by kernel_rfl
noncomputable def cfg0 : Cfg := mkCfg Try.prog noHook (fun i => memB i [400005, 600005, 700005, 700016]) (fun i => !(memB i [5])) (fun i => !(memB i [16])) (fun i => memB i [5])
theorem cfg0_types : cfg0.Types := mkCfg_types _ _ _ _ _ _ Try.mixed
theorem cfg0_hooks : ∀ ρ, HookOk cfg0 ρ := noHook_ok _ _ _ _ _
def etherReadsMem0 : Mem := memOf 1 [(0, (.arr ⟨false, 0, 1, [(.i .u8)], (.var 0), none, 0, []⟩))]
def etherReadsMemo0 : Memo := ⟨13, [], etherReadsMem0, [((.ltI (.var 0) (.lit (0))), false), ((.ltI (.lit (9223372036854775807)) (.var 0)), false)],
  [⟨[], etherReadsMem0, .ret (.bool (.lit true))⟩]⟩
def etherReadsMem1 : Mem := memOf 0 []
def etherReadsMemo1 : Memo := ⟨13, [], etherReadsMem1, [],
  [⟨[], etherReadsMem1, .ret (.bool (.lit true))⟩]⟩
def etherReadsMemos : List Memo := [etherReadsMemo0, etherReadsMemo1]
noncomputable def cfg : Cfg := mkCfg Try.prog (memoHook etherReadsMemos) (fun i => memB i [400005, 600005, 700005, 700016]) (fun i => !(memB i [5])) (fun i => !(memB i [16])) (fun i => memB i [5])
theorem cfg_prog : cfg.P = Try.checked.prog := by kernel_rfl
theorem cfg_types : cfg.Types := mkCfg_types _ _ _ _ _ _ Try.mixed
theorem etherReads_memo0 : Memo.ok cfg0 3000 etherReadsMemo0 = true := by kernel_rfl
theorem etherReads_memo1 : Memo.ok cfg0 3000 etherReadsMemo1 = true := by kernel_rfl
theorem etherReads_memos : ∀ e ∈ etherReadsMemos, Memo.ok cfg0 3000 e = true := (List.forall_mem_cons.2 ⟨etherReads_memo0, (List.forall_mem_cons.2 ⟨etherReads_memo1, (fun _ h => by cases h)⟩)⟩)
theorem cfg_hooks : ∀ ρ, HookOk cfg ρ := memoHook_ok cfg0_types cfg0_hooks (fuel := 3000) etherReads_memos (by kernel_rfl) (by kernel_rfl)
/-- one leaf, shown with the tables alone -/
theorem leaf_of {x : List Bool × PC} (h : leafGood cfg 3000 5 [32] x = true) : LeafOk Try.checked.prog 5 [32] x := ⟨cfg, 3000, cfg_prog, cfg_types, cfg_hooks, h⟩
/-- the tables, and memos that may write -/
noncomputable def cfgV (l : List MemoW) : Cfg := mkCfg Try.prog (memoWHook l) (fun i => memB i [400005, 600005, 700005, 700016]) (fun i => !(memB i [5])) (fun i => !(memB i [16])) (fun i => memB i [5])
def hookN : List (List MemoW) → Nat → List SV → Mem → PC → List Nat → Option (List COut)
  | [] => memoHook etherReadsMemos
  | l :: r => orHook (hookN r) (memoWHook l)
noncomputable def cfgN (l : List (List MemoW)) : Cfg := mkCfg Try.prog (hookN l) (fun i => memB i [400005, 600005, 700005, 700016]) (fun i => !(memB i [5])) (fun i => !(memB i [16])) (fun i => memB i [5])
theorem cfgN_types {l : List (List MemoW)} : (cfgN l).Types := mkCfg_types _ _ _ _ _ _ Try.mixed
theorem cfgN_nil : ∀ ρ, HookOk (cfgN []) ρ := cfg_hooks
theorem cfgN_cons {l : List MemoW} {r : List (List MemoW)} (h : ∀ ρ, HookOk (cfgN r) ρ) (hl : ∀ e ∈ l, MemoW.ok (cfgN r) 3000 e = true) : ∀ ρ, HookOk (cfgN (l :: r)) ρ :=
  orHook_ok (C0 := cfgN r) (C1 := cfgV l) h (memoWHook_ok (C0 := cfgN r) cfgN_types h hl rfl rfl) rfl rfl rfl
theorem leaf_ofN {r : List (List MemoW)} (h : ∀ ρ, HookOk (cfgN r) ρ) {x : List Bool × PC} (hx : leafGood (cfgN r) 3000 5 [32] x = true) : LeafOk Try.checked.prog 5 [32] x :=
  ⟨cfgN r, 3000, cfg_prog, cfgN_types, h, hx⟩
end Go.Proofs.Ytemmnagphjaigaa
