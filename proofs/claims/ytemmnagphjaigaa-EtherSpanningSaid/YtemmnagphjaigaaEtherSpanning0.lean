/-
  The tables of the law EtherSpanning, and the calls of it that were looked at once.
-/
import Derived.Test.YtemmnagphjaigaaRows
import Derived.ProofKit
import Derived.Test.YtemmnagphjaigaaSXH
namespace Go.Proofs.Ytemmnagphjaigaa
open Go.SX
def qT (f : Nat) : T := .cell 0 (.cell 1000000 (.lit 0) 18) f
def qB (f : Nat) : B := .cell 0 (.cell 1000000 (.lit 0) 18) f
theorem Try.own : ownKnob Try.prog.godebug = none := by kernel_rfl
theorem Try.laidOut : laidOutB Try.prog = true := by kernel_rfl
theorem Try.mixed : Try.prog.follows .mixedOrders = true := by kernel_rfl
noncomputable def cfg0 : Cfg := mkCfg Try.prog noHook (fun i => memB i [600004, 700004]) (fun i => !(memB i [4])) (fun i => !(memB i [])) (fun i => memB i [])
theorem cfg0_types : cfg0.Types := mkCfg_types _ _ _ _ _ _ Try.mixed
theorem cfg0_hooks : ∀ ρ, HookOk cfg0 ρ := noHook_ok _ _ _ _ _
def etherSpanningMem0 : Mem := memOf 4 [(0, (.arr ⟨false, 0, 1, [(.i .u8)], (.var 0), none, 0, []⟩)),
   (1, (.arr ⟨false, 1, 1, [(.i .u8)], (.var 1), none, 0, []⟩)),
   (2, (.cells true [(.int .u8 (.cell 1000000 (.lit (0)) 0)), (.int .u8 (.cell 1000000 (.lit (0)) 1)), (.int .u8 (.cell 1000000 (.lit (0)) 2)), (.int .u8 (.cell 1000000 (.lit (0)) 3)), (.int .u8 (.cell 1000000 (.lit (0)) 4)), (.int .u8 (.cell 1000000 (.lit (0)) 5))])),
   (3, (.cells true [(.int .u8 (.cell 1000000 (.lit (0)) 7)), (.int .u8 (.cell 1000000 (.lit (0)) 8)), (.int .u8 (.cell 1000000 (.lit (0)) 9)), (.int .u8 (.cell 1000000 (.lit (0)) 10)), (.int .u8 (.cell 1000000 (.lit (0)) 11)), (.int .u8 (.cell 1000000 (.lit (0)) 12)), (.int .u8 (.cell 1000000 (.lit (0)) 13)), (.int .u8 (.cell 1000000 (.lit (0)) 14)), (.int .u8 (.cell 1000000 (.lit (0)) 15)), (.int .u8 (.cell 1000000 (.lit (0)) 16)), (.int .u8 (.cell 1000000 (.lit (0)) 17)), (.int .u8 (.cell 1000000 (.lit (0)) 18)), (.int .u16 (.cell 1000000 (.lit (0)) 19)), (.slice 1 (.lit (0)) 0 (.var 1) none)]))]
def etherSpanningMemo0 : Memo := ⟨13, [], etherSpanningMem0, [((.ltI (.var 1) (.lit (0))), false), ((.ltI (.lit (9223372036854775807)) (.var 1)), false), ((.ltI (.var 0) (.lit (0))), false), ((.ltI (.lit (9223372036854775807)) (.var 0)), false)],
  [⟨[], etherSpanningMem0, .ret (.bool (.lit true))⟩]⟩
def etherSpanningMem1 : Mem := memOf 3 [(0, (.arr ⟨false, 0, 1, [(.i .u8)], (.var 0), none, 0, []⟩)),
   (1, (.cells true [(.int .u8 (.cell 1000000 (.lit (0)) 0)), (.int .u8 (.cell 1000000 (.lit (0)) 1)), (.int .u8 (.cell 1000000 (.lit (0)) 2)), (.int .u8 (.cell 1000000 (.lit (0)) 3)), (.int .u8 (.cell 1000000 (.lit (0)) 4)), (.int .u8 (.cell 1000000 (.lit (0)) 5))])),
   (2, (.cells true [(.int .u8 (.cell 1000000 (.lit (0)) 7)), (.int .u8 (.cell 1000000 (.lit (0)) 8)), (.int .u8 (.cell 1000000 (.lit (0)) 9)), (.int .u8 (.cell 1000000 (.lit (0)) 10)), (.int .u8 (.cell 1000000 (.lit (0)) 11)), (.int .u8 (.cell 1000000 (.lit (0)) 12)), (.int .u8 (.cell 1000000 (.lit (0)) 13)), (.int .u8 (.cell 1000000 (.lit (0)) 14)), (.int .u8 (.cell 1000000 (.lit (0)) 15)), (.int .u8 (.cell 1000000 (.lit (0)) 16)), (.int .u8 (.cell 1000000 (.lit (0)) 17)), (.int .u8 (.cell 1000000 (.lit (0)) 18)), (.int .u16 (.cell 1000000 (.lit (0)) 19)), (.slice 0 (.lit (0)) 0 (.var 0) none)]))]
def etherSpanningMemo1 : Memo := ⟨13, [], etherSpanningMem1, [((.ltI (.var 0) (.lit (0))), false), ((.ltI (.lit (9223372036854775807)) (.var 0)), false)],
  [⟨[], etherSpanningMem1, .ret (.bool (.lit true))⟩]⟩
def etherSpanningMem2 : Mem := memOf 3 [(0, (.arr ⟨false, 0, 1, [(.i .u8)], (.var 0), none, 0, []⟩)),
   (1, (.cells true [(.int .u8 (.cell 1000000 (.lit (0)) 0)), (.int .u8 (.cell 1000000 (.lit (0)) 1)), (.int .u8 (.cell 1000000 (.lit (0)) 2)), (.int .u8 (.cell 1000000 (.lit (0)) 3)), (.int .u8 (.cell 1000000 (.lit (0)) 4)), (.int .u8 (.cell 1000000 (.lit (0)) 5))])),
   (2, (.cells true [(.int .u8 (.cell 1000000 (.lit (0)) 7)), (.int .u8 (.cell 1000000 (.lit (0)) 8)), (.int .u8 (.cell 1000000 (.lit (0)) 9)), (.int .u8 (.cell 1000000 (.lit (0)) 10)), (.int .u8 (.cell 1000000 (.lit (0)) 11)), (.int .u8 (.cell 1000000 (.lit (0)) 12)), (.int .u8 (.cell 1000000 (.lit (0)) 13)), (.int .u8 (.cell 1000000 (.lit (0)) 14)), (.int .u8 (.cell 1000000 (.lit (0)) 15)), (.int .u8 (.cell 1000000 (.lit (0)) 16)), (.int .u8 (.cell 1000000 (.lit (0)) 17)), (.int .u8 (.cell 1000000 (.lit (0)) 18)), (.int .u16 (.cell 1000000 (.lit (0)) 19)), .nils]))]
def etherSpanningMemo2 : Memo := ⟨13, [], etherSpanningMem2, [((.ltI (.var 0) (.lit (0))), false), ((.ltI (.lit (9223372036854775807)) (.var 0)), false)],
  [⟨[], etherSpanningMem2, .ret (.bool (.lit true))⟩]⟩
def etherSpanningMem3 : Mem := memOf 2 [(0, (.cells true [(.int .u8 (.cell 1000000 (.lit (0)) 0)), (.int .u8 (.cell 1000000 (.lit (0)) 1)), (.int .u8 (.cell 1000000 (.lit (0)) 2)), (.int .u8 (.cell 1000000 (.lit (0)) 3)), (.int .u8 (.cell 1000000 (.lit (0)) 4)), (.int .u8 (.cell 1000000 (.lit (0)) 5))])),
   (1, (.cells true [(.int .u8 (.cell 1000000 (.lit (0)) 7)), (.int .u8 (.cell 1000000 (.lit (0)) 8)), (.int .u8 (.cell 1000000 (.lit (0)) 9)), (.int .u8 (.cell 1000000 (.lit (0)) 10)), (.int .u8 (.cell 1000000 (.lit (0)) 11)), (.int .u8 (.cell 1000000 (.lit (0)) 12)), (.int .u8 (.cell 1000000 (.lit (0)) 13)), (.int .u8 (.cell 1000000 (.lit (0)) 14)), (.int .u8 (.cell 1000000 (.lit (0)) 15)), (.int .u8 (.cell 1000000 (.lit (0)) 16)), (.int .u8 (.cell 1000000 (.lit (0)) 17)), (.int .u8 (.cell 1000000 (.lit (0)) 18)), (.int .u16 (.cell 1000000 (.lit (0)) 19)), .nils]))]
def etherSpanningMemo3 : Memo := ⟨13, [], etherSpanningMem3, [],
  [⟨[], etherSpanningMem3, .ret (.bool (.lit true))⟩]⟩
def etherSpanningMemos : List Memo := [etherSpanningMemo0, etherSpanningMemo1, etherSpanningMemo2, etherSpanningMemo3]
noncomputable def cfg : Cfg := mkCfg Try.prog (memoHook etherSpanningMemos) (fun i => memB i [600004, 700004]) (fun i => !(memB i [4])) (fun i => !(memB i [])) (fun i => memB i [])
theorem cfg_prog : cfg.P = Try.checked.prog := by kernel_rfl
theorem cfg_types : cfg.Types := mkCfg_types _ _ _ _ _ _ Try.mixed
theorem etherSpanning_memo0 : Memo.ok cfg0 3000 etherSpanningMemo0 = true := by kernel_rfl
theorem etherSpanning_memo1 : Memo.ok cfg0 3000 etherSpanningMemo1 = true := by kernel_rfl
theorem etherSpanning_memo2 : Memo.ok cfg0 3000 etherSpanningMemo2 = true := by kernel_rfl
theorem etherSpanning_memo3 : Memo.ok cfg0 3000 etherSpanningMemo3 = true := by kernel_rfl
theorem etherSpanning_memos : ∀ e ∈ etherSpanningMemos, Memo.ok cfg0 3000 e = true := (List.forall_mem_cons.2 ⟨etherSpanning_memo0, (List.forall_mem_cons.2 ⟨etherSpanning_memo1, (List.forall_mem_cons.2 ⟨etherSpanning_memo2, (List.forall_mem_cons.2 ⟨etherSpanning_memo3, (fun _ h => by cases h)⟩)⟩)⟩)⟩)
theorem cfg_hooks : ∀ ρ, HookOk cfg ρ := memoHook_ok cfg0_types cfg0_hooks (fuel := 3000) etherSpanning_memos (by kernel_rfl) (by kernel_rfl)
/-- one leaf, shown with the tables alone -/
theorem leaf_of {x : List Bool × PC} (h : leafGood cfg 3000 4 [43, 32, 45] x = true) : LeafOk Try.checked.prog 4 [43, 32, 45] x := ⟨cfg, 3000, cfg_prog, cfg_types, cfg_hooks, h⟩
/-- the tables, and memos that may write -/
noncomputable def cfgV (l : List MemoW) : Cfg := mkCfg Try.prog (memoWHook l) (fun i => memB i [600004, 700004]) (fun i => !(memB i [4])) (fun i => !(memB i [])) (fun i => memB i [])
def hookN : List (List MemoW) → Nat → List SV → Mem → PC → List Nat → Option (List COut)
  | [] => memoHook etherSpanningMemos
  | l :: r => orHook (hookN r) (memoWHook l)
noncomputable def cfgN (l : List (List MemoW)) : Cfg := mkCfg Try.prog (hookN l) (fun i => memB i [600004, 700004]) (fun i => !(memB i [4])) (fun i => !(memB i [])) (fun i => memB i [])
theorem cfgN_types {l : List (List MemoW)} : (cfgN l).Types := mkCfg_types _ _ _ _ _ _ Try.mixed
theorem cfgN_nil : ∀ ρ, HookOk (cfgN []) ρ := cfg_hooks
theorem cfgN_cons {l : List MemoW} {r : List (List MemoW)} (h : ∀ ρ, HookOk (cfgN r) ρ) (hl : ∀ e ∈ l, MemoW.ok (cfgN r) 3000 e = true) : ∀ ρ, HookOk (cfgN (l :: r)) ρ :=
  orHook_ok (C0 := cfgN r) (C1 := cfgV l) h (memoWHook_ok (C0 := cfgN r) cfgN_types h hl rfl rfl) rfl rfl rfl
theorem leaf_ofN {r : List (List MemoW)} (h : ∀ ρ, HookOk (cfgN r) ρ) {x : List Bool × PC} (hx : leafGood (cfgN r) 3000 4 [43, 32, 45] x = true) : LeafOk Try.checked.prog 4 [43, 32, 45] x :=
  ⟨cfgN r, 3000, cfg_prog, cfgN_types, h, hx⟩
end Go.Proofs.Ytemmnagphjaigaa
