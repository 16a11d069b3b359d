/-
  Part 7 of the law ConfigChecks: some of its ways.
-/
import Derived.Test.YtlmchholjalfgaaConfigChecksR
namespace Go.Proofs.Ytlmchholjalfgaa
open Go.SX
def configChecksL4 : List Bool × PC := ([true], [((.eqI (.cell 1000000 (.lit (0)) 21) (.lit (2))), true), ((.eqI (.cell 1000000 (.lit (0)) 21) (.lit (1))), false), ((.ltI (.lit (7)) (.cell 1000000 (.lit (0)) 21)), false), ((.ltI (.cell 1000000 (.lit (0)) 21) (.lit (1))), false), ((.ltI (.lit (100)) (.var 0)), false)])
def configChecksWm21 : Mem := memOf 3 [(0, (.arr ⟨false, 0, 5, configChecksQ0, (.var 0), none, 0, []⟩)), (1, (.cells true configChecksQ2)), (2, (.cells true configChecksQ3))]
def configChecksW21 : MemoW := ⟨5, configChecksQ4, configChecksWm21, configChecksQ60, [], [⟨[], memOf 4 [(0, (.arr ⟨false, 0, 5, configChecksQ0, (.var 0), none, 0, []⟩)), (1, (.cells true configChecksQ2)), (2, (.cells true configChecksQ3)), (3, (.buf 34 5 configChecksQ61))], .ret (.agg configChecksQ62)⟩]⟩
theorem configChecks_w21 : MemoW.ok (cfgN []) 3000 configChecksW21 = true := by kernel_rfl
def configChecksWm22 : Mem := memOf 9 [(0, (.arr ⟨false, 0, 5, configChecksQ0, (.var 0), none, 0, []⟩)), (1, (.cells true configChecksQ2)), (2, (.cells true configChecksQ3)), (3, (.buf 34 5 configChecksQ61)), (4, (.cells true configChecksQ62)), (5, (.cells true configChecksQ46)), (6, (.cells true configChecksQ46)), (7, (.buf 34 5 configChecksQ63)), (8, (.cells true configChecksQ64))]
def configChecksW22 : MemoW := ⟨7, [(.agg configChecksQ2)], configChecksWm22, configChecksQ60, [], [⟨[], configChecksWm22, .ret (.int .i64 configChecksQ30)⟩]⟩
theorem configChecks_w22 : MemoW.ok (cfgN []) 3000 configChecksW22 = true := by kernel_rfl
def configChecksWm23 : Mem := memOf 9 [(0, (.arr ⟨false, 0, 5, configChecksQ0, (.var 0), none, 0, []⟩)), (1, (.cells true configChecksQ2)), (2, (.cells true configChecksQ3)), (3, (.buf 34 5 configChecksQ61)), (4, (.cells true configChecksQ62)), (5, (.cells true configChecksQ46)), (6, (.cells true configChecksQ46)), (7, (.buf 34 5 configChecksQ63)), (8, (.cells true configChecksQ64))]
def configChecksW23 : MemoW := ⟨8, [(.agg configChecksQ2)], configChecksWm23, configChecksQ60, [], [⟨configChecksQ33, configChecksWm23, .ret (.int .i64 configChecksQ30)⟩, ⟨configChecksQ36, configChecksWm23, .ret (.int .i64 (.lit (4)))⟩]⟩
theorem configChecks_w23 : MemoW.ok (cfgN []) 3000 configChecksW23 = true := by kernel_rfl
def configChecksWm24 : Mem := memOf 9 [(0, (.arr ⟨false, 0, 5, configChecksQ0, (.var 0), none, 0, []⟩)), (1, (.cells true configChecksQ2)), (2, (.cells true configChecksQ3)), (3, (.buf 34 5 configChecksQ61)), (4, (.cells true configChecksQ62)), (5, (.cells true configChecksQ46)), (6, (.cells true configChecksQ46)), (7, (.buf 34 5 configChecksQ63)), (8, (.cells true configChecksQ64))]
def configChecksW24 : MemoW := ⟨7, [(.agg configChecksQ62)], configChecksWm24, configChecksQ65, [], [⟨[], configChecksWm24, .ret (.int .i64 configChecksQ39)⟩]⟩
theorem configChecks_w24 : MemoW.ok (cfgN []) 3000 configChecksW24 = true := by kernel_rfl
def configChecksWm25 : Mem := memOf 9 [(0, (.arr ⟨false, 0, 5, configChecksQ0, (.var 0), none, 0, []⟩)), (1, (.cells true configChecksQ2)), (2, (.cells true configChecksQ3)), (3, (.buf 34 5 configChecksQ61)), (4, (.cells true configChecksQ62)), (5, (.cells true configChecksQ46)), (6, (.cells true configChecksQ46)), (7, (.buf 34 5 configChecksQ63)), (8, (.cells true configChecksQ64))]
def configChecksW25 : MemoW := ⟨7, [(.agg configChecksQ62)], configChecksWm25, configChecksQ66, [], [⟨[], configChecksWm25, .ret (.int .i64 configChecksQ39)⟩]⟩
theorem configChecks_w25 : MemoW.ok (cfgN []) 3000 configChecksW25 = true := by kernel_rfl
def configChecksWm26 : Mem := memOf 9 [(0, (.arr ⟨false, 0, 5, configChecksQ0, (.var 0), none, 0, []⟩)), (1, (.cells true configChecksQ2)), (2, (.cells true configChecksQ3)), (3, (.buf 34 5 configChecksQ61)), (4, (.cells true configChecksQ62)), (5, (.cells true configChecksQ46)), (6, (.cells true configChecksQ46)), (7, (.buf 34 5 configChecksQ63)), (8, (.cells true configChecksQ64))]
def configChecksW26 : MemoW := ⟨8, [(.agg configChecksQ62)], configChecksWm26, configChecksQ65, [], [⟨[], configChecksWm26, .ret (.int .i64 configChecksQ39)⟩]⟩
theorem configChecks_w26 : MemoW.ok (cfgN []) 3000 configChecksW26 = true := by kernel_rfl
def configChecksWm27 : Mem := memOf 9 [(0, (.arr ⟨false, 0, 5, configChecksQ0, (.var 0), none, 0, []⟩)), (1, (.cells true configChecksQ2)), (2, (.cells true configChecksQ3)), (3, (.buf 34 5 configChecksQ61)), (4, (.cells true configChecksQ62)), (5, (.cells true configChecksQ46)), (6, (.cells true configChecksQ46)), (7, (.buf 34 5 configChecksQ63)), (8, (.cells true configChecksQ64))]
def configChecksW27 : MemoW := ⟨8, [(.agg configChecksQ62)], configChecksWm27, configChecksQ66, [], [⟨[], configChecksWm27, .ret (.int .i64 configChecksQ39)⟩]⟩
theorem configChecks_w27 : MemoW.ok (cfgN []) 3000 configChecksW27 = true := by kernel_rfl
def configChecksM4x0 : List MemoW := [configChecksW21, configChecksW22, configChecksW23, configChecksW24, configChecksW25, configChecksW26, configChecksW27]
set_option maxRecDepth 100000 in
theorem configChecks_h4x0 : ∀ ρ, HookOk (cfgN [configChecksM4x0]) ρ := cfgN_cons cfgN_nil (List.forall_mem_cons.2 ⟨configChecks_w21, (List.forall_mem_cons.2 ⟨configChecks_w22, (List.forall_mem_cons.2 ⟨configChecks_w23, (List.forall_mem_cons.2 ⟨configChecks_w24, (List.forall_mem_cons.2 ⟨configChecks_w25, (List.forall_mem_cons.2 ⟨configChecks_w26, (List.forall_mem_cons.2 ⟨configChecks_w27, (fun _ h => by cases h)⟩)⟩)⟩)⟩)⟩)⟩)⟩)
theorem configChecks_leaf4 : leafGood (cfgN [configChecksM4x0]) 3000 3 [28, 23, 3] configChecksL4 = true := by kernel_rfl
theorem configChecks_ok4 : LeafOk Try.checked.prog 3 [28, 23, 3] configChecksL4 := leaf_ofN configChecks_h4x0 configChecks_leaf4
def configChecksL5 : List Bool × PC := ([true], [((.eqI (.cell 1000000 (.lit (0)) 21) (.lit (3))), true), ((.eqI (.cell 1000000 (.lit (0)) 21) (.lit (2))), false), ((.eqI (.cell 1000000 (.lit (0)) 21) (.lit (1))), false), ((.ltI (.lit (7)) (.cell 1000000 (.lit (0)) 21)), false), ((.ltI (.cell 1000000 (.lit (0)) 21) (.lit (1))), false), ((.ltI (.lit (100)) (.var 0)), false)])
def configChecksWm28 : Mem := memOf 3 [(0, (.arr ⟨false, 0, 5, configChecksQ0, (.var 0), none, 0, []⟩)), (1, (.cells true configChecksQ2)), (2, (.cells true configChecksQ3))]
def configChecksW28 : MemoW := ⟨5, configChecksQ4, configChecksWm28, configChecksQ68, [], [⟨[], memOf 4 [(0, (.arr ⟨false, 0, 5, configChecksQ0, (.var 0), none, 0, []⟩)), (1, (.cells true configChecksQ2)), (2, (.cells true configChecksQ3)), (3, (.buf 34 5 configChecksQ69))], .ret (.agg configChecksQ70)⟩]⟩
theorem configChecks_w28 : MemoW.ok (cfgN []) 3000 configChecksW28 = true := by kernel_rfl
def configChecksWm29 : Mem := memOf 10 [(0, (.arr ⟨false, 0, 5, configChecksQ0, (.var 0), none, 0, []⟩)), (1, (.cells true configChecksQ2)), (2, (.cells true configChecksQ3)), (3, (.buf 34 5 configChecksQ69)), (4, (.cells true configChecksQ70)), (5, (.cells true configChecksQ46)), (6, (.cells true configChecksQ46)), (7, (.cells true configChecksQ46)), (8, (.buf 34 5 configChecksQ71)), (9, (.cells true configChecksQ72))]
def configChecksW29 : MemoW := ⟨7, [(.agg configChecksQ2)], configChecksWm29, configChecksQ68, [], [⟨[], configChecksWm29, .ret (.int .i64 configChecksQ30)⟩]⟩
theorem configChecks_w29 : MemoW.ok (cfgN []) 3000 configChecksW29 = true := by kernel_rfl
def configChecksWm30 : Mem := memOf 10 [(0, (.arr ⟨false, 0, 5, configChecksQ0, (.var 0), none, 0, []⟩)), (1, (.cells true configChecksQ2)), (2, (.cells true configChecksQ3)), (3, (.buf 34 5 configChecksQ69)), (4, (.cells true configChecksQ70)), (5, (.cells true configChecksQ46)), (6, (.cells true configChecksQ46)), (7, (.cells true configChecksQ46)), (8, (.buf 34 5 configChecksQ71)), (9, (.cells true configChecksQ72))]
def configChecksW30 : MemoW := ⟨8, [(.agg configChecksQ2)], configChecksWm30, configChecksQ68, [], [⟨configChecksQ33, configChecksWm30, .ret (.int .i64 configChecksQ30)⟩, ⟨configChecksQ36, configChecksWm30, .ret (.int .i64 (.lit (4)))⟩]⟩
theorem configChecks_w30 : MemoW.ok (cfgN []) 3000 configChecksW30 = true := by kernel_rfl
def configChecksWm31 : Mem := memOf 10 [(0, (.arr ⟨false, 0, 5, configChecksQ0, (.var 0), none, 0, []⟩)), (1, (.cells true configChecksQ2)), (2, (.cells true configChecksQ3)), (3, (.buf 34 5 configChecksQ69)), (4, (.cells true configChecksQ70)), (5, (.cells true configChecksQ46)), (6, (.cells true configChecksQ46)), (7, (.cells true configChecksQ46)), (8, (.buf 34 5 configChecksQ71)), (9, (.cells true configChecksQ72))]
def configChecksW31 : MemoW := ⟨7, [(.agg configChecksQ70)], configChecksWm31, configChecksQ73, [], [⟨[], configChecksWm31, .ret (.int .i64 configChecksQ39)⟩]⟩
theorem configChecks_w31 : MemoW.ok (cfgN []) 3000 configChecksW31 = true := by kernel_rfl
def configChecksWm32 : Mem := memOf 10 [(0, (.arr ⟨false, 0, 5, configChecksQ0, (.var 0), none, 0, []⟩)), (1, (.cells true configChecksQ2)), (2, (.cells true configChecksQ3)), (3, (.buf 34 5 configChecksQ69)), (4, (.cells true configChecksQ70)), (5, (.cells true configChecksQ46)), (6, (.cells true configChecksQ46)), (7, (.cells true configChecksQ46)), (8, (.buf 34 5 configChecksQ71)), (9, (.cells true configChecksQ72))]
def configChecksW32 : MemoW := ⟨7, [(.agg configChecksQ70)], configChecksWm32, configChecksQ74, [], [⟨[], configChecksWm32, .ret (.int .i64 configChecksQ39)⟩]⟩
theorem configChecks_w32 : MemoW.ok (cfgN []) 3000 configChecksW32 = true := by kernel_rfl
def configChecksWm33 : Mem := memOf 10 [(0, (.arr ⟨false, 0, 5, configChecksQ0, (.var 0), none, 0, []⟩)), (1, (.cells true configChecksQ2)), (2, (.cells true configChecksQ3)), (3, (.buf 34 5 configChecksQ69)), (4, (.cells true configChecksQ70)), (5, (.cells true configChecksQ46)), (6, (.cells true configChecksQ46)), (7, (.cells true configChecksQ46)), (8, (.buf 34 5 configChecksQ71)), (9, (.cells true configChecksQ72))]
def configChecksW33 : MemoW := ⟨8, [(.agg configChecksQ70)], configChecksWm33, configChecksQ73, [], [⟨[], configChecksWm33, .ret (.int .i64 configChecksQ39)⟩]⟩
theorem configChecks_w33 : MemoW.ok (cfgN []) 3000 configChecksW33 = true := by kernel_rfl
def configChecksWm34 : Mem := memOf 10 [(0, (.arr ⟨false, 0, 5, configChecksQ0, (.var 0), none, 0, []⟩)), (1, (.cells true configChecksQ2)), (2, (.cells true configChecksQ3)), (3, (.buf 34 5 configChecksQ69)), (4, (.cells true configChecksQ70)), (5, (.cells true configChecksQ46)), (6, (.cells true configChecksQ46)), (7, (.cells true configChecksQ46)), (8, (.buf 34 5 configChecksQ71)), (9, (.cells true configChecksQ72))]
def configChecksW34 : MemoW := ⟨8, [(.agg configChecksQ70)], configChecksWm34, configChecksQ74, [], [⟨[], configChecksWm34, .ret (.int .i64 configChecksQ39)⟩]⟩
theorem configChecks_w34 : MemoW.ok (cfgN []) 3000 configChecksW34 = true := by kernel_rfl
def configChecksM5x0 : List MemoW := [configChecksW28, configChecksW29, configChecksW30, configChecksW31, configChecksW32, configChecksW33, configChecksW34]
set_option maxRecDepth 100000 in
theorem configChecks_h5x0 : ∀ ρ, HookOk (cfgN [configChecksM5x0]) ρ := cfgN_cons cfgN_nil (List.forall_mem_cons.2 ⟨configChecks_w28, (List.forall_mem_cons.2 ⟨configChecks_w29, (List.forall_mem_cons.2 ⟨configChecks_w30, (List.forall_mem_cons.2 ⟨configChecks_w31, (List.forall_mem_cons.2 ⟨configChecks_w32, (List.forall_mem_cons.2 ⟨configChecks_w33, (List.forall_mem_cons.2 ⟨configChecks_w34, (fun _ h => by cases h)⟩)⟩)⟩)⟩)⟩)⟩)⟩)
theorem configChecks_leaf5 : leafGood (cfgN [configChecksM5x0]) 3000 3 [28, 23, 3] configChecksL5 = true := by kernel_rfl
theorem configChecks_ok5 : LeafOk Try.checked.prog 3 [28, 23, 3] configChecksL5 := leaf_ofN configChecks_h5x0 configChecks_leaf5
end Go.Proofs.Ytlmchholjalfgaa
