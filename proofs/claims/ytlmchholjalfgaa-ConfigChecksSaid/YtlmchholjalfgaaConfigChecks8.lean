/-
  Part 8 of the law ConfigChecks: some of its ways.
-/
import Derived.Test.YtlmchholjalfgaaConfigChecksR
namespace Go.Proofs.Ytlmchholjalfgaa
open Go.SX
def configChecksL6 : List Bool × PC := ([true], [((.eqI (.cell 1000000 (.lit (0)) 21) (.lit (4))), true), ((.eqI (.cell 1000000 (.lit (0)) 21) (.lit (3))), false), ((.eqI (.cell 1000000 (.lit (0)) 21) (.lit (2))), false), ((.eqI (.cell 1000000 (.lit (0)) 21) (.lit (1))), false), ((.ltI (.lit (7)) (.cell 1000000 (.lit (0)) 21)), false), ((.ltI (.cell 1000000 (.lit (0)) 21) (.lit (1))), false), ((.ltI (.lit (100)) (.var 0)), false)])
def configChecksWm35 : Mem := memOf 3 [(0, (.arr ⟨false, 0, 5, configChecksQ0, (.var 0), none, 0, []⟩)), (1, (.cells true configChecksQ2)), (2, (.cells true configChecksQ3))]
def configChecksW35 : MemoW := ⟨5, configChecksQ4, configChecksWm35, configChecksQ76, [], [⟨[], memOf 4 [(0, (.arr ⟨false, 0, 5, configChecksQ0, (.var 0), none, 0, []⟩)), (1, (.cells true configChecksQ2)), (2, (.cells true configChecksQ3)), (3, (.buf 34 5 configChecksQ77))], .ret (.agg configChecksQ78)⟩]⟩
theorem configChecks_w35 : MemoW.ok (cfgN []) 3000 configChecksW35 = true := by kernel_rfl
def configChecksWm36 : Mem := memOf 11 [(0, (.arr ⟨false, 0, 5, configChecksQ0, (.var 0), none, 0, []⟩)), (1, (.cells true configChecksQ2)), (2, (.cells true configChecksQ3)), (3, (.buf 34 5 configChecksQ77)), (4, (.cells true configChecksQ78)), (5, (.cells true configChecksQ46)), (6, (.cells true configChecksQ46)), (7, (.cells true configChecksQ46)), (8, (.cells true configChecksQ46)), (9, (.buf 34 5 configChecksQ79)), (10, (.cells true configChecksQ80))]
def configChecksW36 : MemoW := ⟨7, [(.agg configChecksQ2)], configChecksWm36, configChecksQ76, [], [⟨[], configChecksWm36, .ret (.int .i64 configChecksQ30)⟩]⟩
theorem configChecks_w36 : MemoW.ok (cfgN []) 3000 configChecksW36 = true := by kernel_rfl
def configChecksWm37 : Mem := memOf 11 [(0, (.arr ⟨false, 0, 5, configChecksQ0, (.var 0), none, 0, []⟩)), (1, (.cells true configChecksQ2)), (2, (.cells true configChecksQ3)), (3, (.buf 34 5 configChecksQ77)), (4, (.cells true configChecksQ78)), (5, (.cells true configChecksQ46)), (6, (.cells true configChecksQ46)), (7, (.cells true configChecksQ46)), (8, (.cells true configChecksQ46)), (9, (.buf 34 5 configChecksQ79)), (10, (.cells true configChecksQ80))]
def configChecksW37 : MemoW := ⟨8, [(.agg configChecksQ2)], configChecksWm37, configChecksQ76, [], [⟨configChecksQ33, configChecksWm37, .ret (.int .i64 configChecksQ30)⟩, ⟨configChecksQ36, configChecksWm37, .ret (.int .i64 (.lit (4)))⟩]⟩
theorem configChecks_w37 : MemoW.ok (cfgN []) 3000 configChecksW37 = true := by kernel_rfl
def configChecksWm38 : Mem := memOf 11 [(0, (.arr ⟨false, 0, 5, configChecksQ0, (.var 0), none, 0, []⟩)), (1, (.cells true configChecksQ2)), (2, (.cells true configChecksQ3)), (3, (.buf 34 5 configChecksQ77)), (4, (.cells true configChecksQ78)), (5, (.cells true configChecksQ46)), (6, (.cells true configChecksQ46)), (7, (.cells true configChecksQ46)), (8, (.cells true configChecksQ46)), (9, (.buf 34 5 configChecksQ79)), (10, (.cells true configChecksQ80))]
def configChecksW38 : MemoW := ⟨7, [(.agg configChecksQ78)], configChecksWm38, configChecksQ81, [], [⟨[], configChecksWm38, .ret (.int .i64 configChecksQ39)⟩]⟩
theorem configChecks_w38 : MemoW.ok (cfgN []) 3000 configChecksW38 = true := by kernel_rfl
def configChecksWm39 : Mem := memOf 11 [(0, (.arr ⟨false, 0, 5, configChecksQ0, (.var 0), none, 0, []⟩)), (1, (.cells true configChecksQ2)), (2, (.cells true configChecksQ3)), (3, (.buf 34 5 configChecksQ77)), (4, (.cells true configChecksQ78)), (5, (.cells true configChecksQ46)), (6, (.cells true configChecksQ46)), (7, (.cells true configChecksQ46)), (8, (.cells true configChecksQ46)), (9, (.buf 34 5 configChecksQ79)), (10, (.cells true configChecksQ80))]
def configChecksW39 : MemoW := ⟨7, [(.agg configChecksQ78)], configChecksWm39, configChecksQ82, [], [⟨[], configChecksWm39, .ret (.int .i64 configChecksQ39)⟩]⟩
theorem configChecks_w39 : MemoW.ok (cfgN []) 3000 configChecksW39 = true := by kernel_rfl
def configChecksWm40 : Mem := memOf 11 [(0, (.arr ⟨false, 0, 5, configChecksQ0, (.var 0), none, 0, []⟩)), (1, (.cells true configChecksQ2)), (2, (.cells true configChecksQ3)), (3, (.buf 34 5 configChecksQ77)), (4, (.cells true configChecksQ78)), (5, (.cells true configChecksQ46)), (6, (.cells true configChecksQ46)), (7, (.cells true configChecksQ46)), (8, (.cells true configChecksQ46)), (9, (.buf 34 5 configChecksQ79)), (10, (.cells true configChecksQ80))]
def configChecksW40 : MemoW := ⟨8, [(.agg configChecksQ78)], configChecksWm40, configChecksQ81, [], [⟨[], configChecksWm40, .ret (.int .i64 configChecksQ39)⟩]⟩
theorem configChecks_w40 : MemoW.ok (cfgN []) 3000 configChecksW40 = true := by kernel_rfl
def configChecksWm41 : Mem := memOf 11 [(0, (.arr ⟨false, 0, 5, configChecksQ0, (.var 0), none, 0, []⟩)), (1, (.cells true configChecksQ2)), (2, (.cells true configChecksQ3)), (3, (.buf 34 5 configChecksQ77)), (4, (.cells true configChecksQ78)), (5, (.cells true configChecksQ46)), (6, (.cells true configChecksQ46)), (7, (.cells true configChecksQ46)), (8, (.cells true configChecksQ46)), (9, (.buf 34 5 configChecksQ79)), (10, (.cells true configChecksQ80))]
def configChecksW41 : MemoW := ⟨8, [(.agg configChecksQ78)], configChecksWm41, configChecksQ82, [], [⟨[], configChecksWm41, .ret (.int .i64 configChecksQ39)⟩]⟩
theorem configChecks_w41 : MemoW.ok (cfgN []) 3000 configChecksW41 = true := by kernel_rfl
def configChecksM6x0 : List MemoW := [configChecksW35, configChecksW36, configChecksW37, configChecksW38, configChecksW39, configChecksW40, configChecksW41]
set_option maxRecDepth 100000 in
theorem configChecks_h6x0 : ∀ ρ, HookOk (cfgN [configChecksM6x0]) ρ := cfgN_cons cfgN_nil (List.forall_mem_cons.2 ⟨configChecks_w35, (List.forall_mem_cons.2 ⟨configChecks_w36, (List.forall_mem_cons.2 ⟨configChecks_w37, (List.forall_mem_cons.2 ⟨configChecks_w38, (List.forall_mem_cons.2 ⟨configChecks_w39, (List.forall_mem_cons.2 ⟨configChecks_w40, (List.forall_mem_cons.2 ⟨configChecks_w41, (fun _ h => by cases h)⟩)⟩)⟩)⟩)⟩)⟩)⟩)
theorem configChecks_leaf6 : leafGood (cfgN [configChecksM6x0]) 3000 3 [28, 23, 3] configChecksL6 = true := by kernel_rfl
theorem configChecks_ok6 : LeafOk Try.checked.prog 3 [28, 23, 3] configChecksL6 := leaf_ofN configChecks_h6x0 configChecks_leaf6
def configChecksL10 : List Bool × PC := ([false], [((.ltI (.cell 1000000 (.lit (0)) 21) (.lit (1))), true)])
def configChecksWm63 : Mem := memOf 2 [(0, (.cells true configChecksQ111)), (1, (.cells true configChecksQ3))]
def configChecksW63 : MemoW := ⟨5, configChecksQ4, configChecksWm63, [(configChecksQ5, true)], [], [⟨[], configChecksWm63, .ret (.agg configChecksQ10)⟩]⟩
theorem configChecks_w63 : MemoW.ok (cfgN []) 3000 configChecksW63 = true := by kernel_rfl
def configChecksWm64 : Mem := memOf 4 [(0, (.cells true configChecksQ111)), (1, (.cells true configChecksQ3)), (2, (.cells true configChecksQ10)), (3, (.cells true configChecksQ10))]
def configChecksW64 : MemoW := ⟨7, configChecksQ112, configChecksWm64, [(configChecksQ5, true)], [], [⟨[], configChecksWm64, .ret (.int .i64 configChecksQ114)⟩]⟩
theorem configChecks_w64 : MemoW.ok (cfgN []) 3000 configChecksW64 = true := by kernel_rfl
def configChecksWm65 : Mem := memOf 4 [(0, (.cells true configChecksQ111)), (1, (.cells true configChecksQ3)), (2, (.cells true configChecksQ10)), (3, (.cells true configChecksQ10))]
def configChecksW65 : MemoW := ⟨8, configChecksQ112, configChecksWm65, [(configChecksQ5, true)], [], [⟨configChecksQ115, configChecksWm65, .ret (.int .i64 configChecksQ116)⟩, ⟨configChecksQ117, configChecksWm65, .ret (.int .i64 (.lit (4)))⟩]⟩
theorem configChecks_w65 : MemoW.ok (cfgN []) 3000 configChecksW65 = true := by kernel_rfl
def configChecksWm66 : Mem := memOf 4 [(0, (.cells true configChecksQ111)), (1, (.cells true configChecksQ3)), (2, (.cells true configChecksQ10)), (3, (.cells true configChecksQ10))]
def configChecksW66 : MemoW := ⟨7, [(.agg configChecksQ10)], configChecksWm66, configChecksQ118, [], [⟨[], configChecksWm66, .ret (.int .i64 configChecksQ39)⟩]⟩
theorem configChecks_w66 : MemoW.ok (cfgN []) 3000 configChecksW66 = true := by kernel_rfl
def configChecksWm67 : Mem := memOf 4 [(0, (.cells true configChecksQ111)), (1, (.cells true configChecksQ3)), (2, (.cells true configChecksQ10)), (3, (.cells true configChecksQ10))]
def configChecksW67 : MemoW := ⟨7, [(.agg configChecksQ10)], configChecksWm67, configChecksQ119, [], [⟨[], configChecksWm67, .ret (.int .i64 configChecksQ39)⟩]⟩
theorem configChecks_w67 : MemoW.ok (cfgN []) 3000 configChecksW67 = true := by kernel_rfl
def configChecksWm68 : Mem := memOf 4 [(0, (.cells true configChecksQ111)), (1, (.cells true configChecksQ3)), (2, (.cells true configChecksQ10)), (3, (.cells true configChecksQ10))]
def configChecksW68 : MemoW := ⟨8, [(.agg configChecksQ10)], configChecksWm68, configChecksQ118, [], [⟨[], configChecksWm68, .ret (.int .i64 configChecksQ39)⟩]⟩
theorem configChecks_w68 : MemoW.ok (cfgN []) 3000 configChecksW68 = true := by kernel_rfl
def configChecksWm69 : Mem := memOf 4 [(0, (.cells true configChecksQ111)), (1, (.cells true configChecksQ3)), (2, (.cells true configChecksQ10)), (3, (.cells true configChecksQ10))]
def configChecksW69 : MemoW := ⟨8, [(.agg configChecksQ10)], configChecksWm69, configChecksQ119, [], [⟨[], configChecksWm69, .ret (.int .i64 configChecksQ39)⟩]⟩
theorem configChecks_w69 : MemoW.ok (cfgN []) 3000 configChecksW69 = true := by kernel_rfl
def configChecksM10x0 : List MemoW := [configChecksW63, configChecksW64, configChecksW65, configChecksW66, configChecksW67, configChecksW68, configChecksW69]
set_option maxRecDepth 100000 in
theorem configChecks_h10x0 : ∀ ρ, HookOk (cfgN [configChecksM10x0]) ρ := cfgN_cons cfgN_nil (List.forall_mem_cons.2 ⟨configChecks_w63, (List.forall_mem_cons.2 ⟨configChecks_w64, (List.forall_mem_cons.2 ⟨configChecks_w65, (List.forall_mem_cons.2 ⟨configChecks_w66, (List.forall_mem_cons.2 ⟨configChecks_w67, (List.forall_mem_cons.2 ⟨configChecks_w68, (List.forall_mem_cons.2 ⟨configChecks_w69, (fun _ h => by cases h)⟩)⟩)⟩)⟩)⟩)⟩)⟩)
theorem configChecks_leaf10 : leafGood (cfgN [configChecksM10x0]) 3000 3 [28, 23, 3] configChecksL10 = true := by kernel_rfl
theorem configChecks_ok10 : LeafOk Try.checked.prog 3 [28, 23, 3] configChecksL10 := leaf_ofN configChecks_h10x0 configChecks_leaf10
end Go.Proofs.Ytlmchholjalfgaa
