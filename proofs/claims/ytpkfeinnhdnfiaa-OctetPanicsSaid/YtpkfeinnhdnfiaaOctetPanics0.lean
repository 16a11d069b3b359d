/-
  The tables of the law OctetPanics, and the calls of it that were looked at once.
-/
import Derived.Test.YtpkfeinnhdnfiaaRows
import Derived.ProofKit
import Derived.Test.YtpkfeinnhdnfiaaSXG
namespace Go.Proofs.Ytpkfeinnhdnfiaa
open Go.SX
def qT (f : Nat) : T := .cell 0 (.cell 1000000 (.lit 0) 18) f
def qB (f : Nat) : B := .cell 0 (.cell 1000000 (.lit 0) 18) f
theorem Try.own : ownKnob Try.prog.godebug = none := by kernel_rfl
theorem Try.laidOut : laidOutB Try.prog = true := by kernel_rfl
theorem Try.mixed : Try.prog.follows .mixedOrders = true := by kernel_rfl
noncomputable def cfg0 : Cfg := mkCfg Try.prog noHook (fun i => memB i [600004, 700004]) (fun i => !(memB i [4])) (fun i => !(memB i [])) (fun i => memB i [])
theorem cfg0_types : cfg0.Types := mkCfg_types _ _ _ _ _ _ Try.mixed
theorem cfg0_hooks : ∀ ρ, HookOk cfg0 ρ := noHook_ok _ _ _ _ _
def octetPanicsMem0 : Mem := memOf 1 [(0, (.arr ⟨false, 0, 1, [(.i .u8)], (.var 0), none, 0, []⟩))]
def octetPanicsMemo0 : Memo := ⟨14, [], octetPanicsMem0, [((.ltI (.var 0) (.lit (0))), false), ((.ltI (.lit (9223372036854775807)) (.var 0)), false)],
  [⟨[], octetPanicsMem0, .ret (.bool (.lit true))⟩]⟩
def octetPanicsMem1 : Mem := memOf 0 []
def octetPanicsMemo1 : Memo := ⟨14, [], octetPanicsMem1, [],
  [⟨[], octetPanicsMem1, .ret (.bool (.lit true))⟩]⟩
def octetPanicsMemos : List Memo := [octetPanicsMemo0, octetPanicsMemo1]
noncomputable def cfg : Cfg := mkCfg Try.prog (memoHook octetPanicsMemos) (fun i => memB i [600004, 700004]) (fun i => !(memB i [4])) (fun i => !(memB i [])) (fun i => memB i [])
theorem cfg_prog : cfg.P = Try.checked.prog := by kernel_rfl
theorem cfg_types : cfg.Types := mkCfg_types _ _ _ _ _ _ Try.mixed
theorem octetPanics_memo0 : Memo.ok cfg0 3000 octetPanicsMemo0 = true := by kernel_rfl
theorem octetPanics_memo1 : Memo.ok cfg0 3000 octetPanicsMemo1 = true := by kernel_rfl
theorem octetPanics_memos : ∀ e ∈ octetPanicsMemos, Memo.ok cfg0 3000 e = true := (List.forall_mem_cons.2 ⟨octetPanics_memo0, (List.forall_mem_cons.2 ⟨octetPanics_memo1, (fun _ h => by cases h)⟩)⟩)
theorem cfg_hooks : ∀ ρ, HookOk cfg ρ := memoHook_ok cfg0_types cfg0_hooks (fuel := 3000) octetPanics_memos (by kernel_rfl) (by kernel_rfl)
/-- one leaf, shown with the tables alone -/
theorem leaf_of {x : List Bool × PC} (h : leafGood cfg 3000 4 [3, 28] x = true) : LeafOk Try.checked.prog 4 [3, 28] x := ⟨cfg, 3000, cfg_prog, cfg_types, cfg_hooks, h⟩
/-- the tables, and memos that may write -/
noncomputable def cfgV (l : List MemoW) : Cfg := mkCfg Try.prog (memoWHook l) (fun i => memB i [600004, 700004]) (fun i => !(memB i [4])) (fun i => !(memB i [])) (fun i => memB i [])
noncomputable def cfgW (l : List MemoW) : Cfg := mkCfg Try.prog (orHook (memoHook octetPanicsMemos) (memoWHook l)) (fun i => memB i [600004, 700004]) (fun i => !(memB i [4])) (fun i => !(memB i [])) (fun i => memB i [])
theorem cfgW_hooks {l : List MemoW} (h : ∀ e ∈ l, MemoW.ok cfg 3000 e = true) : ∀ ρ, HookOk (cfgW l) ρ :=
  orHook_ok (C0 := cfg) (C1 := cfgV l) cfg_hooks (memoWHook_ok cfg_types cfg_hooks h rfl rfl) rfl rfl rfl
theorem leaf_ofW {l : List MemoW} (h : ∀ e ∈ l, MemoW.ok cfg 3000 e = true) {x : List Bool × PC} (hx : leafGood (cfgW l) 3000 4 [3, 28] x = true) : LeafOk Try.checked.prog 4 [3, 28] x :=
  ⟨cfgW l, 3000, cfg_prog, mkCfg_types _ _ _ _ _ _ Try.mixed, cfgW_hooks h, hx⟩
end Go.Proofs.Ytpkfeinnhdnfiaa
