/-
  Part 3 of the law ConfigChecks: some of its ways.
-/
import Derived.Test.YtlmchholjalfgaaConfigChecksR
namespace Go.Proofs.Ytlmchholjalfgaa
open Go.SX
def configChecksL0 : List Bool × PC := ([true], [((.ltI (.lit (100)) (.var 0)), true)])
theorem configChecks_leaf0 : leafGood cfg 3000 3 [28, 23, 3] configChecksL0 = true := by kernel_rfl
theorem configChecks_ok0 : LeafOk Try.checked.prog 3 [28, 23, 3] configChecksL0 := leaf_of configChecks_leaf0
def configChecksL9 : List Bool × PC := ([true], [((.eqI (.cell 1000000 (.lit (0)) 21) (.lit (6))), false), ((.eqI (.cell 1000000 (.lit (0)) 21) (.lit (5))), false), ((.eqI (.cell 1000000 (.lit (0)) 21) (.lit (4))), false), ((.eqI (.cell 1000000 (.lit (0)) 21) (.lit (3))), false), ((.eqI (.cell 1000000 (.lit (0)) 21) (.lit (2))), false), ((.eqI (.cell 1000000 (.lit (0)) 21) (.lit (1))), false), ((.ltI (.lit (7)) (.cell 1000000 (.lit (0)) 21)), false), ((.ltI (.cell 1000000 (.lit (0)) 21) (.lit (1))), false), ((.ltI (.lit (100)) (.var 0)), false)])
def configChecksWm56 : Mem := memOf 3 [(0, (.arr ⟨false, 0, 5, configChecksQ0, (.var 0), none, 0, []⟩)), (1, (.cells true configChecksQ2)), (2, (.cells true configChecksQ3))]
def configChecksW56 : MemoW := ⟨5, configChecksQ4, configChecksWm56, [(configChecksQ91, false), (configChecksQ83, false), (configChecksQ75, false), (configChecksQ67, false), (configChecksQ59, false), (configChecksQ52, false), (configChecksQ42, false), (configChecksQ5, false), (configChecksQ6, false), (configChecksQ7, false), (configChecksQ8, false)], [], [⟨configChecksQ102, memOf 4 [(0, (.arr ⟨false, 0, 5, configChecksQ0, (.var 0), none, 0, []⟩)), (1, (.cells true configChecksQ2)), (2, (.cells true configChecksQ3)), (3, (.buf 34 5 configChecksQ103))], .ret (.agg configChecksQ104)⟩]⟩
theorem configChecks_w56 : MemoW.ok (cfgN []) 3000 configChecksW56 = true := by kernel_rfl
def configChecksWm57 : Mem := memOf 14 [(0, (.arr ⟨false, 0, 5, configChecksQ0, (.var 0), none, 0, []⟩)), (1, (.cells true configChecksQ2)), (2, (.cells true configChecksQ3)), (3, (.buf 34 5 configChecksQ103)), (4, (.cells true configChecksQ104)), (5, (.cells true configChecksQ46)), (6, (.cells true configChecksQ46)), (7, (.cells true configChecksQ46)), (8, (.cells true configChecksQ46)), (9, (.cells true configChecksQ46)), (10, (.cells true configChecksQ46)), (11, (.cells true configChecksQ46)), (12, (.buf 34 5 configChecksQ105)), (13, (.cells true configChecksQ106))]
def configChecksW57 : MemoW := ⟨7, [(.agg configChecksQ2)], configChecksWm57, configChecksQ107, [], [⟨[], configChecksWm57, .ret (.int .i64 configChecksQ30)⟩]⟩
theorem configChecks_w57 : MemoW.ok (cfgN []) 3000 configChecksW57 = true := by kernel_rfl
def configChecksWm58 : Mem := memOf 14 [(0, (.arr ⟨false, 0, 5, configChecksQ0, (.var 0), none, 0, []⟩)), (1, (.cells true configChecksQ2)), (2, (.cells true configChecksQ3)), (3, (.buf 34 5 configChecksQ103)), (4, (.cells true configChecksQ104)), (5, (.cells true configChecksQ46)), (6, (.cells true configChecksQ46)), (7, (.cells true configChecksQ46)), (8, (.cells true configChecksQ46)), (9, (.cells true configChecksQ46)), (10, (.cells true configChecksQ46)), (11, (.cells true configChecksQ46)), (12, (.buf 34 5 configChecksQ105)), (13, (.cells true configChecksQ106))]
def configChecksW58 : MemoW := ⟨8, [(.agg configChecksQ2)], configChecksWm58, configChecksQ107, [], [⟨configChecksQ33, configChecksWm58, .ret (.int .i64 configChecksQ30)⟩, ⟨configChecksQ36, configChecksWm58, .ret (.int .i64 (.lit (4)))⟩]⟩
theorem configChecks_w58 : MemoW.ok (cfgN []) 3000 configChecksW58 = true := by kernel_rfl
def configChecksWm59 : Mem := memOf 14 [(0, (.arr ⟨false, 0, 5, configChecksQ0, (.var 0), none, 0, []⟩)), (1, (.cells true configChecksQ2)), (2, (.cells true configChecksQ3)), (3, (.buf 34 5 configChecksQ103)), (4, (.cells true configChecksQ104)), (5, (.cells true configChecksQ46)), (6, (.cells true configChecksQ46)), (7, (.cells true configChecksQ46)), (8, (.cells true configChecksQ46)), (9, (.cells true configChecksQ46)), (10, (.cells true configChecksQ46)), (11, (.cells true configChecksQ46)), (12, (.buf 34 5 configChecksQ105)), (13, (.cells true configChecksQ106))]
def configChecksW59 : MemoW := ⟨7, configChecksQ108, configChecksWm59, configChecksQ109, [], [⟨[], configChecksWm59, .ret (.int .i64 configChecksQ39)⟩]⟩
theorem configChecks_w59 : MemoW.ok (cfgN []) 3000 configChecksW59 = true := by kernel_rfl
def configChecksWm60 : Mem := memOf 14 [(0, (.arr ⟨false, 0, 5, configChecksQ0, (.var 0), none, 0, []⟩)), (1, (.cells true configChecksQ2)), (2, (.cells true configChecksQ3)), (3, (.buf 34 5 configChecksQ103)), (4, (.cells true configChecksQ104)), (5, (.cells true configChecksQ46)), (6, (.cells true configChecksQ46)), (7, (.cells true configChecksQ46)), (8, (.cells true configChecksQ46)), (9, (.cells true configChecksQ46)), (10, (.cells true configChecksQ46)), (11, (.cells true configChecksQ46)), (12, (.buf 34 5 configChecksQ105)), (13, (.cells true configChecksQ106))]
def configChecksW60 : MemoW := ⟨7, configChecksQ108, configChecksWm60, configChecksQ110, [], [⟨[], configChecksWm60, .ret (.int .i64 configChecksQ39)⟩]⟩
theorem configChecks_w60 : MemoW.ok (cfgN []) 3000 configChecksW60 = true := by kernel_rfl
def configChecksWm61 : Mem := memOf 14 [(0, (.arr ⟨false, 0, 5, configChecksQ0, (.var 0), none, 0, []⟩)), (1, (.cells true configChecksQ2)), (2, (.cells true configChecksQ3)), (3, (.buf 34 5 configChecksQ103)), (4, (.cells true configChecksQ104)), (5, (.cells true configChecksQ46)), (6, (.cells true configChecksQ46)), (7, (.cells true configChecksQ46)), (8, (.cells true configChecksQ46)), (9, (.cells true configChecksQ46)), (10, (.cells true configChecksQ46)), (11, (.cells true configChecksQ46)), (12, (.buf 34 5 configChecksQ105)), (13, (.cells true configChecksQ106))]
def configChecksW61 : MemoW := ⟨8, configChecksQ108, configChecksWm61, configChecksQ109, [], [⟨[], configChecksWm61, .ret (.int .i64 configChecksQ39)⟩]⟩
theorem configChecks_w61 : MemoW.ok (cfgN []) 3000 configChecksW61 = true := by kernel_rfl
def configChecksWm62 : Mem := memOf 14 [(0, (.arr ⟨false, 0, 5, configChecksQ0, (.var 0), none, 0, []⟩)), (1, (.cells true configChecksQ2)), (2, (.cells true configChecksQ3)), (3, (.buf 34 5 configChecksQ103)), (4, (.cells true configChecksQ104)), (5, (.cells true configChecksQ46)), (6, (.cells true configChecksQ46)), (7, (.cells true configChecksQ46)), (8, (.cells true configChecksQ46)), (9, (.cells true configChecksQ46)), (10, (.cells true configChecksQ46)), (11, (.cells true configChecksQ46)), (12, (.buf 34 5 configChecksQ105)), (13, (.cells true configChecksQ106))]
def configChecksW62 : MemoW := ⟨8, configChecksQ108, configChecksWm62, configChecksQ110, [], [⟨[], configChecksWm62, .ret (.int .i64 configChecksQ39)⟩]⟩
theorem configChecks_w62 : MemoW.ok (cfgN []) 3000 configChecksW62 = true := by kernel_rfl
def configChecksM9x0 : List MemoW := [configChecksW56, configChecksW57, configChecksW58, configChecksW59, configChecksW60, configChecksW61, configChecksW62]
set_option maxRecDepth 100000 in
theorem configChecks_h9x0 : ∀ ρ, HookOk (cfgN [configChecksM9x0]) ρ := cfgN_cons cfgN_nil (List.forall_mem_cons.2 ⟨configChecks_w56, (List.forall_mem_cons.2 ⟨configChecks_w57, (List.forall_mem_cons.2 ⟨configChecks_w58, (List.forall_mem_cons.2 ⟨configChecks_w59, (List.forall_mem_cons.2 ⟨configChecks_w60, (List.forall_mem_cons.2 ⟨configChecks_w61, (List.forall_mem_cons.2 ⟨configChecks_w62, (fun _ h => by cases h)⟩)⟩)⟩)⟩)⟩)⟩)⟩)
theorem configChecks_leaf9 : leafGood (cfgN [configChecksM9x0]) 3000 3 [28, 23, 3] configChecksL9 = true := by kernel_rfl
theorem configChecks_ok9 : LeafOk Try.checked.prog 3 [28, 23, 3] configChecksL9 := leaf_ofN configChecks_h9x0 configChecks_leaf9
def configChecksL12 : List Bool × PC := ([false], [((.eqI (.cell 1000000 (.lit (0)) 21) (.lit (1))), true), ((.ltI (.lit (7)) (.cell 1000000 (.lit (0)) 21)), false), ((.ltI (.cell 1000000 (.lit (0)) 21) (.lit (1))), false)])
def configChecksWm77 : Mem := memOf 2 [(0, (.cells true configChecksQ111)), (1, (.cells true configChecksQ3))]
def configChecksW77 : MemoW := ⟨5, configChecksQ4, configChecksWm77, configChecksQ126, [], [⟨[], memOf 3 [(0, (.cells true configChecksQ111)), (1, (.cells true configChecksQ3)), (2, (.buf 34 5 configChecksQ46))], .ret (.agg configChecksQ127)⟩]⟩
theorem configChecks_w77 : MemoW.ok (cfgN []) 3000 configChecksW77 = true := by kernel_rfl
def configChecksWm78 : Mem := memOf 7 [(0, (.cells true configChecksQ111)), (1, (.cells true configChecksQ3)), (2, (.buf 34 5 configChecksQ46)), (3, (.cells true configChecksQ127)), (4, (.cells true configChecksQ46)), (5, (.buf 34 5 configChecksQ55)), (6, (.cells true configChecksQ128))]
def configChecksW78 : MemoW := ⟨7, configChecksQ112, configChecksWm78, configChecksQ126, [], [⟨[], configChecksWm78, .ret (.int .i64 configChecksQ114)⟩]⟩
theorem configChecks_w78 : MemoW.ok (cfgN []) 3000 configChecksW78 = true := by kernel_rfl
def configChecksWm79 : Mem := memOf 7 [(0, (.cells true configChecksQ111)), (1, (.cells true configChecksQ3)), (2, (.buf 34 5 configChecksQ46)), (3, (.cells true configChecksQ127)), (4, (.cells true configChecksQ46)), (5, (.buf 34 5 configChecksQ55)), (6, (.cells true configChecksQ128))]
def configChecksW79 : MemoW := ⟨8, configChecksQ112, configChecksWm79, configChecksQ126, [], [⟨configChecksQ115, configChecksWm79, .ret (.int .i64 configChecksQ116)⟩, ⟨configChecksQ117, configChecksWm79, .ret (.int .i64 (.lit (4)))⟩]⟩
theorem configChecks_w79 : MemoW.ok (cfgN []) 3000 configChecksW79 = true := by kernel_rfl
def configChecksWm80 : Mem := memOf 7 [(0, (.cells true configChecksQ111)), (1, (.cells true configChecksQ3)), (2, (.buf 34 5 configChecksQ46)), (3, (.cells true configChecksQ127)), (4, (.cells true configChecksQ46)), (5, (.buf 34 5 configChecksQ55)), (6, (.cells true configChecksQ128))]
def configChecksW80 : MemoW := ⟨7, configChecksQ129, configChecksWm80, configChecksQ130, [], [⟨[], configChecksWm80, .ret (.int .i64 configChecksQ39)⟩]⟩
theorem configChecks_w80 : MemoW.ok (cfgN []) 3000 configChecksW80 = true := by kernel_rfl
def configChecksWm81 : Mem := memOf 7 [(0, (.cells true configChecksQ111)), (1, (.cells true configChecksQ3)), (2, (.buf 34 5 configChecksQ46)), (3, (.cells true configChecksQ127)), (4, (.cells true configChecksQ46)), (5, (.buf 34 5 configChecksQ55)), (6, (.cells true configChecksQ128))]
def configChecksW81 : MemoW := ⟨7, configChecksQ129, configChecksWm81, configChecksQ131, [], [⟨[], configChecksWm81, .ret (.int .i64 configChecksQ39)⟩]⟩
theorem configChecks_w81 : MemoW.ok (cfgN []) 3000 configChecksW81 = true := by kernel_rfl
def configChecksWm82 : Mem := memOf 7 [(0, (.cells true configChecksQ111)), (1, (.cells true configChecksQ3)), (2, (.buf 34 5 configChecksQ46)), (3, (.cells true configChecksQ127)), (4, (.cells true configChecksQ46)), (5, (.buf 34 5 configChecksQ55)), (6, (.cells true configChecksQ128))]
def configChecksW82 : MemoW := ⟨8, configChecksQ129, configChecksWm82, configChecksQ130, [], [⟨[], configChecksWm82, .ret (.int .i64 configChecksQ39)⟩]⟩
theorem configChecks_w82 : MemoW.ok (cfgN []) 3000 configChecksW82 = true := by kernel_rfl
def configChecksWm83 : Mem := memOf 7 [(0, (.cells true configChecksQ111)), (1, (.cells true configChecksQ3)), (2, (.buf 34 5 configChecksQ46)), (3, (.cells true configChecksQ127)), (4, (.cells true configChecksQ46)), (5, (.buf 34 5 configChecksQ55)), (6, (.cells true configChecksQ128))]
def configChecksW83 : MemoW := ⟨8, configChecksQ129, configChecksWm83, configChecksQ131, [], [⟨[], configChecksWm83, .ret (.int .i64 configChecksQ39)⟩]⟩
theorem configChecks_w83 : MemoW.ok (cfgN []) 3000 configChecksW83 = true := by kernel_rfl
def configChecksM12x0 : List MemoW := [configChecksW77, configChecksW78, configChecksW79, configChecksW80, configChecksW81, configChecksW82, configChecksW83]
set_option maxRecDepth 100000 in
theorem configChecks_h12x0 : ∀ ρ, HookOk (cfgN [configChecksM12x0]) ρ := cfgN_cons cfgN_nil (List.forall_mem_cons.2 ⟨configChecks_w77, (List.forall_mem_cons.2 ⟨configChecks_w78, (List.forall_mem_cons.2 ⟨configChecks_w79, (List.forall_mem_cons.2 ⟨configChecks_w80, (List.forall_mem_cons.2 ⟨configChecks_w81, (List.forall_mem_cons.2 ⟨configChecks_w82, (List.forall_mem_cons.2 ⟨configChecks_w83, (fun _ h => by cases h)⟩)⟩)⟩)⟩)⟩)⟩)⟩)
theorem configChecks_leaf12 : leafGood (cfgN [configChecksM12x0]) 3000 3 [28, 23, 3] configChecksL12 = true := by kernel_rfl
theorem configChecks_ok12 : LeafOk Try.checked.prog 3 [28, 23, 3] configChecksL12 := leaf_ofN configChecks_h12x0 configChecks_leaf12
end Go.Proofs.Ytlmchholjalfgaa
