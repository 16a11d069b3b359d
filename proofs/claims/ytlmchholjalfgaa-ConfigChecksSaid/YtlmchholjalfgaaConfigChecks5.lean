/-
  Part 5 of the law ConfigChecks: some of its ways.
-/
import Derived.Test.YtlmchholjalfgaaConfigChecksR
namespace Go.Proofs.Ytlmchholjalfgaa
open Go.SX
def configChecksL3 : List Bool × PC := ([true], [((.eqI (.cell 1000000 (.lit (0)) 21) (.lit (1))), true), ((.ltI (.lit (7)) (.cell 1000000 (.lit (0)) 21)), false), ((.ltI (.cell 1000000 (.lit (0)) 21) (.lit (1))), false), ((.ltI (.lit (100)) (.var 0)), false)])
def configChecksWm14 : Mem := memOf 3 [(0, (.arr ⟨false, 0, 5, configChecksQ0, (.var 0), none, 0, []⟩)), (1, (.cells true configChecksQ2)), (2, (.cells true configChecksQ3))]
def configChecksW14 : MemoW := ⟨5, configChecksQ4, configChecksWm14, configChecksQ53, [], [⟨[], memOf 4 [(0, (.arr ⟨false, 0, 5, configChecksQ0, (.var 0), none, 0, []⟩)), (1, (.cells true configChecksQ2)), (2, (.cells true configChecksQ3)), (3, (.buf 34 5 configChecksQ46))], .ret (.agg configChecksQ54)⟩]⟩
theorem configChecks_w14 : MemoW.ok (cfgN []) 3000 configChecksW14 = true := by kernel_rfl
def configChecksWm15 : Mem := memOf 8 [(0, (.arr ⟨false, 0, 5, configChecksQ0, (.var 0), none, 0, []⟩)), (1, (.cells true configChecksQ2)), (2, (.cells true configChecksQ3)), (3, (.buf 34 5 configChecksQ46)), (4, (.cells true configChecksQ54)), (5, (.cells true configChecksQ46)), (6, (.buf 34 5 configChecksQ55)), (7, (.cells true configChecksQ56))]
def configChecksW15 : MemoW := ⟨7, [(.agg configChecksQ2)], configChecksWm15, configChecksQ53, [], [⟨[], configChecksWm15, .ret (.int .i64 configChecksQ30)⟩]⟩
theorem configChecks_w15 : MemoW.ok (cfgN []) 3000 configChecksW15 = true := by kernel_rfl
def configChecksWm16 : Mem := memOf 8 [(0, (.arr ⟨false, 0, 5, configChecksQ0, (.var 0), none, 0, []⟩)), (1, (.cells true configChecksQ2)), (2, (.cells true configChecksQ3)), (3, (.buf 34 5 configChecksQ46)), (4, (.cells true configChecksQ54)), (5, (.cells true configChecksQ46)), (6, (.buf 34 5 configChecksQ55)), (7, (.cells true configChecksQ56))]
def configChecksW16 : MemoW := ⟨8, [(.agg configChecksQ2)], configChecksWm16, configChecksQ53, [], [⟨configChecksQ33, configChecksWm16, .ret (.int .i64 configChecksQ30)⟩, ⟨configChecksQ36, configChecksWm16, .ret (.int .i64 (.lit (4)))⟩]⟩
theorem configChecks_w16 : MemoW.ok (cfgN []) 3000 configChecksW16 = true := by kernel_rfl
def configChecksWm17 : Mem := memOf 8 [(0, (.arr ⟨false, 0, 5, configChecksQ0, (.var 0), none, 0, []⟩)), (1, (.cells true configChecksQ2)), (2, (.cells true configChecksQ3)), (3, (.buf 34 5 configChecksQ46)), (4, (.cells true configChecksQ54)), (5, (.cells true configChecksQ46)), (6, (.buf 34 5 configChecksQ55)), (7, (.cells true configChecksQ56))]
def configChecksW17 : MemoW := ⟨7, [(.agg configChecksQ54)], configChecksWm17, configChecksQ57, [], [⟨[], configChecksWm17, .ret (.int .i64 configChecksQ39)⟩]⟩
theorem configChecks_w17 : MemoW.ok (cfgN []) 3000 configChecksW17 = true := by kernel_rfl
def configChecksWm18 : Mem := memOf 8 [(0, (.arr ⟨false, 0, 5, configChecksQ0, (.var 0), none, 0, []⟩)), (1, (.cells true configChecksQ2)), (2, (.cells true configChecksQ3)), (3, (.buf 34 5 configChecksQ46)), (4, (.cells true configChecksQ54)), (5, (.cells true configChecksQ46)), (6, (.buf 34 5 configChecksQ55)), (7, (.cells true configChecksQ56))]
def configChecksW18 : MemoW := ⟨7, [(.agg configChecksQ54)], configChecksWm18, configChecksQ58, [], [⟨[], configChecksWm18, .ret (.int .i64 configChecksQ39)⟩]⟩
theorem configChecks_w18 : MemoW.ok (cfgN []) 3000 configChecksW18 = true := by kernel_rfl
def configChecksWm19 : Mem := memOf 8 [(0, (.arr ⟨false, 0, 5, configChecksQ0, (.var 0), none, 0, []⟩)), (1, (.cells true configChecksQ2)), (2, (.cells true configChecksQ3)), (3, (.buf 34 5 configChecksQ46)), (4, (.cells true configChecksQ54)), (5, (.cells true configChecksQ46)), (6, (.buf 34 5 configChecksQ55)), (7, (.cells true configChecksQ56))]
def configChecksW19 : MemoW := ⟨8, [(.agg configChecksQ54)], configChecksWm19, configChecksQ57, [], [⟨[], configChecksWm19, .ret (.int .i64 configChecksQ39)⟩]⟩
theorem configChecks_w19 : MemoW.ok (cfgN []) 3000 configChecksW19 = true := by kernel_rfl
def configChecksWm20 : Mem := memOf 8 [(0, (.arr ⟨false, 0, 5, configChecksQ0, (.var 0), none, 0, []⟩)), (1, (.cells true configChecksQ2)), (2, (.cells true configChecksQ3)), (3, (.buf 34 5 configChecksQ46)), (4, (.cells true configChecksQ54)), (5, (.cells true configChecksQ46)), (6, (.buf 34 5 configChecksQ55)), (7, (.cells true configChecksQ56))]
def configChecksW20 : MemoW := ⟨8, [(.agg configChecksQ54)], configChecksWm20, configChecksQ58, [], [⟨[], configChecksWm20, .ret (.int .i64 configChecksQ39)⟩]⟩
theorem configChecks_w20 : MemoW.ok (cfgN []) 3000 configChecksW20 = true := by kernel_rfl
def configChecksM3x0 : List MemoW := [configChecksW14, configChecksW15, configChecksW16, configChecksW17, configChecksW18, configChecksW19, configChecksW20]
set_option maxRecDepth 100000 in
theorem configChecks_h3x0 : ∀ ρ, HookOk (cfgN [configChecksM3x0]) ρ := cfgN_cons cfgN_nil (List.forall_mem_cons.2 ⟨configChecks_w14, (List.forall_mem_cons.2 ⟨configChecks_w15, (List.forall_mem_cons.2 ⟨configChecks_w16, (List.forall_mem_cons.2 ⟨configChecks_w17, (List.forall_mem_cons.2 ⟨configChecks_w18, (List.forall_mem_cons.2 ⟨configChecks_w19, (List.forall_mem_cons.2 ⟨configChecks_w20, (fun _ h => by cases h)⟩)⟩)⟩)⟩)⟩)⟩)⟩)
theorem configChecks_leaf3 : leafGood (cfgN [configChecksM3x0]) 3000 3 [28, 23, 3] configChecksL3 = true := by kernel_rfl
theorem configChecks_ok3 : LeafOk Try.checked.prog 3 [28, 23, 3] configChecksL3 := leaf_ofN configChecks_h3x0 configChecks_leaf3
def configChecksL7 : List Bool × PC := ([true], [((.eqI (.cell 1000000 (.lit (0)) 21) (.lit (5))), true), ((.eqI (.cell 1000000 (.lit (0)) 21) (.lit (4))), false), ((.eqI (.cell 1000000 (.lit (0)) 21) (.lit (3))), false), ((.eqI (.cell 1000000 (.lit (0)) 21) (.lit (2))), false), ((.eqI (.cell 1000000 (.lit (0)) 21) (.lit (1))), false), ((.ltI (.lit (7)) (.cell 1000000 (.lit (0)) 21)), false), ((.ltI (.cell 1000000 (.lit (0)) 21) (.lit (1))), false), ((.ltI (.lit (100)) (.var 0)), false)])
def configChecksWm42 : Mem := memOf 3 [(0, (.arr ⟨false, 0, 5, configChecksQ0, (.var 0), none, 0, []⟩)), (1, (.cells true configChecksQ2)), (2, (.cells true configChecksQ3))]
def configChecksW42 : MemoW := ⟨5, configChecksQ4, configChecksWm42, configChecksQ84, [], [⟨[], memOf 4 [(0, (.arr ⟨false, 0, 5, configChecksQ0, (.var 0), none, 0, []⟩)), (1, (.cells true configChecksQ2)), (2, (.cells true configChecksQ3)), (3, (.buf 34 5 configChecksQ85))], .ret (.agg configChecksQ86)⟩]⟩
theorem configChecks_w42 : MemoW.ok (cfgN []) 3000 configChecksW42 = true := by kernel_rfl
def configChecksWm43 : Mem := memOf 12 [(0, (.arr ⟨false, 0, 5, configChecksQ0, (.var 0), none, 0, []⟩)), (1, (.cells true configChecksQ2)), (2, (.cells true configChecksQ3)), (3, (.buf 34 5 configChecksQ85)), (4, (.cells true configChecksQ86)), (5, (.cells true configChecksQ46)), (6, (.cells true configChecksQ46)), (7, (.cells true configChecksQ46)), (8, (.cells true configChecksQ46)), (9, (.cells true configChecksQ46)), (10, (.buf 34 5 configChecksQ87)), (11, (.cells true configChecksQ88))]
def configChecksW43 : MemoW := ⟨7, [(.agg configChecksQ2)], configChecksWm43, configChecksQ84, [], [⟨[], configChecksWm43, .ret (.int .i64 configChecksQ30)⟩]⟩
theorem configChecks_w43 : MemoW.ok (cfgN []) 3000 configChecksW43 = true := by kernel_rfl
def configChecksWm44 : Mem := memOf 12 [(0, (.arr ⟨false, 0, 5, configChecksQ0, (.var 0), none, 0, []⟩)), (1, (.cells true configChecksQ2)), (2, (.cells true configChecksQ3)), (3, (.buf 34 5 configChecksQ85)), (4, (.cells true configChecksQ86)), (5, (.cells true configChecksQ46)), (6, (.cells true configChecksQ46)), (7, (.cells true configChecksQ46)), (8, (.cells true configChecksQ46)), (9, (.cells true configChecksQ46)), (10, (.buf 34 5 configChecksQ87)), (11, (.cells true configChecksQ88))]
def configChecksW44 : MemoW := ⟨8, [(.agg configChecksQ2)], configChecksWm44, configChecksQ84, [], [⟨configChecksQ33, configChecksWm44, .ret (.int .i64 configChecksQ30)⟩, ⟨configChecksQ36, configChecksWm44, .ret (.int .i64 (.lit (4)))⟩]⟩
theorem configChecks_w44 : MemoW.ok (cfgN []) 3000 configChecksW44 = true := by kernel_rfl
def configChecksWm45 : Mem := memOf 12 [(0, (.arr ⟨false, 0, 5, configChecksQ0, (.var 0), none, 0, []⟩)), (1, (.cells true configChecksQ2)), (2, (.cells true configChecksQ3)), (3, (.buf 34 5 configChecksQ85)), (4, (.cells true configChecksQ86)), (5, (.cells true configChecksQ46)), (6, (.cells true configChecksQ46)), (7, (.cells true configChecksQ46)), (8, (.cells true configChecksQ46)), (9, (.cells true configChecksQ46)), (10, (.buf 34 5 configChecksQ87)), (11, (.cells true configChecksQ88))]
def configChecksW45 : MemoW := ⟨7, [(.agg configChecksQ86)], configChecksWm45, configChecksQ89, [], [⟨[], configChecksWm45, .ret (.int .i64 configChecksQ39)⟩]⟩
theorem configChecks_w45 : MemoW.ok (cfgN []) 3000 configChecksW45 = true := by kernel_rfl
def configChecksWm46 : Mem := memOf 12 [(0, (.arr ⟨false, 0, 5, configChecksQ0, (.var 0), none, 0, []⟩)), (1, (.cells true configChecksQ2)), (2, (.cells true configChecksQ3)), (3, (.buf 34 5 configChecksQ85)), (4, (.cells true configChecksQ86)), (5, (.cells true configChecksQ46)), (6, (.cells true configChecksQ46)), (7, (.cells true configChecksQ46)), (8, (.cells true configChecksQ46)), (9, (.cells true configChecksQ46)), (10, (.buf 34 5 configChecksQ87)), (11, (.cells true configChecksQ88))]
def configChecksW46 : MemoW := ⟨7, [(.agg configChecksQ86)], configChecksWm46, configChecksQ90, [], [⟨[], configChecksWm46, .ret (.int .i64 configChecksQ39)⟩]⟩
theorem configChecks_w46 : MemoW.ok (cfgN []) 3000 configChecksW46 = true := by kernel_rfl
def configChecksWm47 : Mem := memOf 12 [(0, (.arr ⟨false, 0, 5, configChecksQ0, (.var 0), none, 0, []⟩)), (1, (.cells true configChecksQ2)), (2, (.cells true configChecksQ3)), (3, (.buf 34 5 configChecksQ85)), (4, (.cells true configChecksQ86)), (5, (.cells true configChecksQ46)), (6, (.cells true configChecksQ46)), (7, (.cells true configChecksQ46)), (8, (.cells true configChecksQ46)), (9, (.cells true configChecksQ46)), (10, (.buf 34 5 configChecksQ87)), (11, (.cells true configChecksQ88))]
def configChecksW47 : MemoW := ⟨8, [(.agg configChecksQ86)], configChecksWm47, configChecksQ89, [], [⟨[], configChecksWm47, .ret (.int .i64 configChecksQ39)⟩]⟩
theorem configChecks_w47 : MemoW.ok (cfgN []) 3000 configChecksW47 = true := by kernel_rfl
def configChecksWm48 : Mem := memOf 12 [(0, (.arr ⟨false, 0, 5, configChecksQ0, (.var 0), none, 0, []⟩)), (1, (.cells true configChecksQ2)), (2, (.cells true configChecksQ3)), (3, (.buf 34 5 configChecksQ85)), (4, (.cells true configChecksQ86)), (5, (.cells true configChecksQ46)), (6, (.cells true configChecksQ46)), (7, (.cells true configChecksQ46)), (8, (.cells true configChecksQ46)), (9, (.cells true configChecksQ46)), (10, (.buf 34 5 configChecksQ87)), (11, (.cells true configChecksQ88))]
def configChecksW48 : MemoW := ⟨8, [(.agg configChecksQ86)], configChecksWm48, configChecksQ90, [], [⟨[], configChecksWm48, .ret (.int .i64 configChecksQ39)⟩]⟩
theorem configChecks_w48 : MemoW.ok (cfgN []) 3000 configChecksW48 = true := by kernel_rfl
def configChecksM7x0 : List MemoW := [configChecksW42, configChecksW43, configChecksW44, configChecksW45, configChecksW46, configChecksW47, configChecksW48]
set_option maxRecDepth 100000 in
theorem configChecks_h7x0 : ∀ ρ, HookOk (cfgN [configChecksM7x0]) ρ := cfgN_cons cfgN_nil (List.forall_mem_cons.2 ⟨configChecks_w42, (List.forall_mem_cons.2 ⟨configChecks_w43, (List.forall_mem_cons.2 ⟨configChecks_w44, (List.forall_mem_cons.2 ⟨configChecks_w45, (List.forall_mem_cons.2 ⟨configChecks_w46, (List.forall_mem_cons.2 ⟨configChecks_w47, (List.forall_mem_cons.2 ⟨configChecks_w48, (fun _ h => by cases h)⟩)⟩)⟩)⟩)⟩)⟩)⟩)
theorem configChecks_leaf7 : leafGood (cfgN [configChecksM7x0]) 3000 3 [28, 23, 3] configChecksL7 = true := by kernel_rfl
theorem configChecks_ok7 : LeafOk Try.checked.prog 3 [28, 23, 3] configChecksL7 := leaf_ofN configChecks_h7x0 configChecks_leaf7
end Go.Proofs.Ytlmchholjalfgaa
