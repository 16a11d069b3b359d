/-
  The tables of the law ConfigChecks, and the calls of it that were looked at once.
-/
import Derived.Test.YtlmchholjalfgaaRows
import Derived.ProofKit
import Derived.Test.YtlmchholjalfgaaSXI
namespace Go.Proofs.Ytlmchholjalfgaa
open Go.SX
def qT (f : Nat) : T := .cell 0 (.cell 1000000 (.lit 0) 18) f
def qB (f : Nat) : B := .cell 0 (.cell 1000000 (.lit 0) 18) f
theorem Try.own : ownKnob Try.prog.godebug = none := by kernel_rfl
theorem Try.laidOut : laidOutB Try.prog = true := by kernel_rfl
theorem Try.mixed : Try.prog.follows .mixedOrders = true := by kernel_rfl
noncomputable def mkE (hook : Nat → List SV → Mem → PC → List Nat → Option (List COut)) (mrg jn jc lp : Nat → Bool) : Cfg := { mkCfg (Try.prog) hook mrg jn jc lp with ext := fun i => memB i [] }
theorem ext_ok : ∀ f ∈ ([] : List Nat), ExtIdx Try.prog f := (fun _ h => by cases h)
theorem mkE_types {hook : Nat → List SV → Mem → PC → List Nat → Option (List COut)} {mrg jn jc lp : Nat → Bool} : (mkE hook mrg jn jc lp).Types := (mkCfg_types _ _ _ _ _ _ (Try.mixed)).withExt ext_ok
theorem mkE_P {hook : Nat → List SV → Mem → PC → List Nat → Option (List COut)} {mrg jn jc lp : Nat → Bool} : (mkE hook mrg jn jc lp).P = Try.prog := rfl
noncomputable def mkX (hook : Nat → List SV → Mem → PC → List Nat → Option (List COut)) (mrg jn jc lp : Nat → Bool) : Cfg := { mkE hook mrg jn jc lp with flt := fltAt [(27, 1), (26, 2), (21, 3)] }
theorem flt_ok : ∀ p ∈ ([(27, 1), (26, 2), (21, 3)] : List (Nat × Nat)), ExtFlt Try.prog p.1 p.2 := (List.forall_mem_cons.2 ⟨⟨Try.f27, Try.func27, by kernel_rfl, by kernel_rfl, by kernel_rfl, by kernel_rfl⟩, (List.forall_mem_cons.2 ⟨⟨Try.f26, Try.func26, by kernel_rfl, by kernel_rfl, by kernel_rfl, by kernel_rfl⟩, (List.forall_mem_cons.2 ⟨⟨Try.f21, Try.func21, by kernel_rfl, by kernel_rfl, by kernel_rfl, by kernel_rfl⟩, (fun _ h => by cases h)⟩)⟩)⟩)
theorem mkX_types {hook : Nat → List SV → Mem → PC → List Nat → Option (List COut)} {mrg jn jc lp : Nat → Bool} : (mkX hook mrg jn jc lp).Types := mkE_types.withFlt (fun p hp => by rw [mkE_P]; exact flt_ok p hp)
theorem mkX_none {mrg jn jc lp : Nat → Bool} (ρ : Env) : HookOk (mkX noHook mrg jn jc lp) ρ := fun _ _ _ _ _ _ h => by cases h
noncomputable def cfg0 : Cfg := mkX noHook (fun i => memB i [600003, 600013, 600017, 600007, 700003, 700013, 700017, 700007]) (fun i => !(memB i [3, 13, 17])) (fun i => !(memB i [])) (fun i => memB i [8, 7])
theorem cfg0_types : cfg0.Types := mkX_types
theorem cfg0_hooks : ∀ ρ, HookOk cfg0 ρ := mkX_none
def configChecksMem0 : Mem := memOf 3 [(0, (.arr ⟨false, 0, 5, [(.i .i64), (.i .u32), .b, .b, (.i .i64)], (.var 0), none, 0, []⟩)),
   (1, (.cells true [(.int .u8 (.cell 1000000 (.lit (0)) 0)), (.int .u8 (.cell 1000000 (.lit (0)) 1)), (.int .u8 (.cell 1000000 (.lit (0)) 2)), (.int .u8 (.cell 1000000 (.lit (0)) 3)), (.int .u8 (.cell 1000000 (.lit (0)) 4)), (.int .u8 (.cell 1000000 (.lit (0)) 5)), (.int .i64 (.cell 1000000 (.lit (0)) 6)), (.int .i64 (.cell 1000000 (.lit (0)) 7)), (.int .i64 (.cell 1000000 (.lit (0)) 8)), (.int .i64 (.cell 1000000 (.lit (0)) 9)), (.int .i64 (.cell 1000000 (.lit (0)) 10)), (.int .i64 (.cell 1000000 (.lit (0)) 11)), (.bool (.cell 1000000 (.lit (0)) 12)), (.int .i64 (.cell 1000000 (.lit (0)) 13)), (.slice 0 (.lit (0)) 0 (.var 0) none)])),
   (2, (.cells true [(.int .u8 (.cell 1000000 (.lit (0)) 15)), (.int .u8 (.cell 1000000 (.lit (0)) 16)), (.int .u8 (.cell 1000000 (.lit (0)) 17)), (.int .u8 (.cell 1000000 (.lit (0)) 18)), (.int .u8 (.cell 1000000 (.lit (0)) 19)), (.int .u8 (.cell 1000000 (.lit (0)) 20))]))]
def configChecksMemo0 : Memo := ⟨4, [], configChecksMem0, [((.ltI (.var 0) (.lit (0))), false), ((.ltI (.lit (9223372036854775807)) (.var 0)), false)],
  [⟨[], configChecksMem0, .ret (.bool (.lit true))⟩]⟩
def configChecksMem1 : Mem := memOf 2 [(0, (.cells true [(.int .u8 (.cell 1000000 (.lit (0)) 0)), (.int .u8 (.cell 1000000 (.lit (0)) 1)), (.int .u8 (.cell 1000000 (.lit (0)) 2)), (.int .u8 (.cell 1000000 (.lit (0)) 3)), (.int .u8 (.cell 1000000 (.lit (0)) 4)), (.int .u8 (.cell 1000000 (.lit (0)) 5)), (.int .i64 (.cell 1000000 (.lit (0)) 6)), (.int .i64 (.cell 1000000 (.lit (0)) 7)), (.int .i64 (.cell 1000000 (.lit (0)) 8)), (.int .i64 (.cell 1000000 (.lit (0)) 9)), (.int .i64 (.cell 1000000 (.lit (0)) 10)), (.int .i64 (.cell 1000000 (.lit (0)) 11)), (.bool (.cell 1000000 (.lit (0)) 12)), (.int .i64 (.cell 1000000 (.lit (0)) 13)), .nils])),
   (1, (.cells true [(.int .u8 (.cell 1000000 (.lit (0)) 15)), (.int .u8 (.cell 1000000 (.lit (0)) 16)), (.int .u8 (.cell 1000000 (.lit (0)) 17)), (.int .u8 (.cell 1000000 (.lit (0)) 18)), (.int .u8 (.cell 1000000 (.lit (0)) 19)), (.int .u8 (.cell 1000000 (.lit (0)) 20))]))]
def configChecksMemo1 : Memo := ⟨4, [], configChecksMem1, [],
  [⟨[], configChecksMem1, .ret (.bool (.lit true))⟩]⟩
def configChecksMemos : List Memo := [configChecksMemo0, configChecksMemo1]
noncomputable def cfg : Cfg := mkX (memoHook configChecksMemos) (fun i => memB i [600003, 600013, 600017, 600007, 700003, 700013, 700017, 700007]) (fun i => !(memB i [3, 13, 17])) (fun i => !(memB i [])) (fun i => memB i [8, 7])
theorem cfg_prog : cfg.P = Try.checked.prog := by kernel_rfl
theorem cfg_types : cfg.Types := mkX_types
theorem configChecks_memo0 : Memo.ok cfg0 3000 configChecksMemo0 = true := by kernel_rfl
theorem configChecks_memo1 : Memo.ok cfg0 3000 configChecksMemo1 = true := by kernel_rfl
theorem configChecks_memos : ∀ e ∈ configChecksMemos, Memo.ok cfg0 3000 e = true := (List.forall_mem_cons.2 ⟨configChecks_memo0, (List.forall_mem_cons.2 ⟨configChecks_memo1, (fun _ h => by cases h)⟩)⟩)
theorem cfg_hooks : ∀ ρ, HookOk cfg ρ := memoHook_ok cfg0_types cfg0_hooks (fuel := 3000) configChecks_memos (by kernel_rfl) (by kernel_rfl)
/-- one leaf, shown with the tables alone -/
theorem leaf_of {x : List Bool × PC} (h : leafGood cfg 3000 3 [28, 23, 3] x = true) : LeafOk Try.checked.prog 3 [28, 23, 3] x := ⟨cfg, 3000, cfg_prog, cfg_types, cfg_hooks, h⟩
/-- the tables, and memos that may write -/
noncomputable def cfgV (l : List MemoW) : Cfg := mkX (memoWHook l) (fun i => memB i [600003, 600013, 600017, 600007, 700003, 700013, 700017, 700007]) (fun i => !(memB i [3, 13, 17])) (fun i => !(memB i [])) (fun i => memB i [8, 7])
def hookN : List (List MemoW) → Nat → List SV → Mem → PC → List Nat → Option (List COut)
  | [] => memoHook configChecksMemos
  | l :: r => orHook (hookN r) (memoWHook l)
noncomputable def cfgN (l : List (List MemoW)) : Cfg := mkX (hookN l) (fun i => memB i [600003, 600013, 600017, 600007, 700003, 700013, 700017, 700007]) (fun i => !(memB i [3, 13, 17])) (fun i => !(memB i [])) (fun i => memB i [8, 7])
theorem cfgN_types {l : List (List MemoW)} : (cfgN l).Types := mkX_types
theorem cfgN_nil : ∀ ρ, HookOk (cfgN []) ρ := cfg_hooks
theorem cfgN_cons {l : List MemoW} {r : List (List MemoW)} (h : ∀ ρ, HookOk (cfgN r) ρ) (hl : ∀ e ∈ l, MemoW.ok (cfgN r) 3000 e = true) : ∀ ρ, HookOk (cfgN (l :: r)) ρ :=
  orHook_ok (C0 := cfgN r) (C1 := cfgV l) h (memoWHook_ok (C0 := cfgN r) cfgN_types h hl rfl rfl) rfl rfl rfl
theorem leaf_ofN {r : List (List MemoW)} (h : ∀ ρ, HookOk (cfgN r) ρ) {x : List Bool × PC} (hx : leafGood (cfgN r) 3000 3 [28, 23, 3] x = true) : LeafOk Try.checked.prog 3 [28, 23, 3] x :=
  ⟨cfgN r, 3000, cfg_prog, cfgN_types, h, hx⟩
end Go.Proofs.Ytlmchholjalfgaa
