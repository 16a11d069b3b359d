/-
  Part 2 of the law ConfigChecks: some of its ways.
-/
import Derived.Test.YtlmchholjalfgaaConfigChecksR
namespace Go.Proofs.Ytlmchholjalfgaa
open Go.SX
def configChecksL1 : List Bool × PC := ([true], [((.ltI (.cell 1000000 (.lit (0)) 21) (.lit (1))), true), ((.ltI (.lit (100)) (.var 0)), false)])
def configChecksWm0 : Mem := memOf 3 [(0, (.arr ⟨false, 0, 5, configChecksQ0, (.var 0), none, 0, []⟩)), (1, (.cells true configChecksQ2)), (2, (.cells true configChecksQ3))]
def configChecksW0 : MemoW := ⟨5, configChecksQ4, configChecksWm0, configChecksQ9, [], [⟨[], configChecksWm0, .ret (.agg configChecksQ10)⟩]⟩
theorem configChecks_w0 : MemoW.ok (cfgN []) 3000 configChecksW0 = true := by kernel_rfl
def configChecksWm1 : Mem := memOf 5 [(0, (.arr ⟨false, 0, 5, configChecksQ0, (.var 0), none, 0, []⟩)), (1, (.cells true configChecksQ2)), (2, (.cells true configChecksQ3)), (3, (.cells true configChecksQ10)), (4, (.cells true configChecksQ10))]
def configChecksW1 : MemoW := ⟨7, [(.agg configChecksQ2)], configChecksWm1, configChecksQ9, [], [⟨[], configChecksWm1, .ret (.int .i64 configChecksQ30)⟩]⟩
theorem configChecks_w1 : MemoW.ok (cfgN []) 3000 configChecksW1 = true := by kernel_rfl
def configChecksWm2 : Mem := memOf 5 [(0, (.arr ⟨false, 0, 5, configChecksQ0, (.var 0), none, 0, []⟩)), (1, (.cells true configChecksQ2)), (2, (.cells true configChecksQ3)), (3, (.cells true configChecksQ10)), (4, (.cells true configChecksQ10))]
def configChecksW2 : MemoW := ⟨8, [(.agg configChecksQ2)], configChecksWm2, configChecksQ9, [], [⟨configChecksQ33, configChecksWm2, .ret (.int .i64 configChecksQ30)⟩, ⟨configChecksQ36, configChecksWm2, .ret (.int .i64 (.lit (4)))⟩]⟩
theorem configChecks_w2 : MemoW.ok (cfgN []) 3000 configChecksW2 = true := by kernel_rfl
def configChecksWm3 : Mem := memOf 5 [(0, (.arr ⟨false, 0, 5, configChecksQ0, (.var 0), none, 0, []⟩)), (1, (.cells true configChecksQ2)), (2, (.cells true configChecksQ3)), (3, (.cells true configChecksQ10)), (4, (.cells true configChecksQ10))]
def configChecksW3 : MemoW := ⟨7, [(.agg configChecksQ10)], configChecksWm3, configChecksQ38, [], [⟨[], configChecksWm3, .ret (.int .i64 configChecksQ39)⟩]⟩
theorem configChecks_w3 : MemoW.ok (cfgN []) 3000 configChecksW3 = true := by kernel_rfl
def configChecksWm4 : Mem := memOf 5 [(0, (.arr ⟨false, 0, 5, configChecksQ0, (.var 0), none, 0, []⟩)), (1, (.cells true configChecksQ2)), (2, (.cells true configChecksQ3)), (3, (.cells true configChecksQ10)), (4, (.cells true configChecksQ10))]
def configChecksW4 : MemoW := ⟨7, [(.agg configChecksQ10)], configChecksWm4, configChecksQ41, [], [⟨[], configChecksWm4, .ret (.int .i64 configChecksQ39)⟩]⟩
theorem configChecks_w4 : MemoW.ok (cfgN []) 3000 configChecksW4 = true := by kernel_rfl
def configChecksWm5 : Mem := memOf 5 [(0, (.arr ⟨false, 0, 5, configChecksQ0, (.var 0), none, 0, []⟩)), (1, (.cells true configChecksQ2)), (2, (.cells true configChecksQ3)), (3, (.cells true configChecksQ10)), (4, (.cells true configChecksQ10))]
def configChecksW5 : MemoW := ⟨8, [(.agg configChecksQ10)], configChecksWm5, configChecksQ38, [], [⟨[], configChecksWm5, .ret (.int .i64 configChecksQ39)⟩]⟩
theorem configChecks_w5 : MemoW.ok (cfgN []) 3000 configChecksW5 = true := by kernel_rfl
def configChecksWm6 : Mem := memOf 5 [(0, (.arr ⟨false, 0, 5, configChecksQ0, (.var 0), none, 0, []⟩)), (1, (.cells true configChecksQ2)), (2, (.cells true configChecksQ3)), (3, (.cells true configChecksQ10)), (4, (.cells true configChecksQ10))]
def configChecksW6 : MemoW := ⟨8, [(.agg configChecksQ10)], configChecksWm6, configChecksQ41, [], [⟨[], configChecksWm6, .ret (.int .i64 configChecksQ39)⟩]⟩
theorem configChecks_w6 : MemoW.ok (cfgN []) 3000 configChecksW6 = true := by kernel_rfl
def configChecksM1x0 : List MemoW := [configChecksW0, configChecksW1, configChecksW2, configChecksW3, configChecksW4, configChecksW5, configChecksW6]
set_option maxRecDepth 100000 in
theorem configChecks_h1x0 : ∀ ρ, HookOk (cfgN [configChecksM1x0]) ρ := cfgN_cons cfgN_nil (List.forall_mem_cons.2 ⟨configChecks_w0, (List.forall_mem_cons.2 ⟨configChecks_w1, (List.forall_mem_cons.2 ⟨configChecks_w2, (List.forall_mem_cons.2 ⟨configChecks_w3, (List.forall_mem_cons.2 ⟨configChecks_w4, (List.forall_mem_cons.2 ⟨configChecks_w5, (List.forall_mem_cons.2 ⟨configChecks_w6, (fun _ h => by cases h)⟩)⟩)⟩)⟩)⟩)⟩)⟩)
theorem configChecks_leaf1 : leafGood (cfgN [configChecksM1x0]) 3000 3 [28, 23, 3] configChecksL1 = true := by kernel_rfl
theorem configChecks_ok1 : LeafOk Try.checked.prog 3 [28, 23, 3] configChecksL1 := leaf_ofN configChecks_h1x0 configChecks_leaf1
def configChecksL16 : List Bool × PC := ([false], [((.eqI (.cell 1000000 (.lit (0)) 21) (.lit (5))), true), ((.eqI (.cell 1000000 (.lit (0)) 21) (.lit (4))), false), ((.eqI (.cell 1000000 (.lit (0)) 21) (.lit (3))), false), ((.eqI (.cell 1000000 (.lit (0)) 21) (.lit (2))), false), ((.eqI (.cell 1000000 (.lit (0)) 21) (.lit (1))), false), ((.ltI (.lit (7)) (.cell 1000000 (.lit (0)) 21)), false), ((.ltI (.cell 1000000 (.lit (0)) 21) (.lit (1))), false)])
def configChecksWm105 : Mem := memOf 2 [(0, (.cells true configChecksQ111)), (1, (.cells true configChecksQ3))]
def configChecksW105 : MemoW := ⟨5, configChecksQ4, configChecksWm105, configChecksQ150, [], [⟨[], memOf 3 [(0, (.cells true configChecksQ111)), (1, (.cells true configChecksQ3)), (2, (.buf 34 5 configChecksQ85))], .ret (.agg configChecksQ151)⟩]⟩
theorem configChecks_w105 : MemoW.ok (cfgN []) 3000 configChecksW105 = true := by kernel_rfl
def configChecksWm106 : Mem := memOf 11 [(0, (.cells true configChecksQ111)), (1, (.cells true configChecksQ3)), (2, (.buf 34 5 configChecksQ85)), (3, (.cells true configChecksQ151)), (4, (.cells true configChecksQ46)), (5, (.cells true configChecksQ46)), (6, (.cells true configChecksQ46)), (7, (.cells true configChecksQ46)), (8, (.cells true configChecksQ46)), (9, (.buf 34 5 configChecksQ87)), (10, (.cells true configChecksQ152))]
def configChecksW106 : MemoW := ⟨7, configChecksQ112, configChecksWm106, configChecksQ150, [], [⟨[], configChecksWm106, .ret (.int .i64 configChecksQ114)⟩]⟩
theorem configChecks_w106 : MemoW.ok (cfgN []) 3000 configChecksW106 = true := by kernel_rfl
def configChecksWm107 : Mem := memOf 11 [(0, (.cells true configChecksQ111)), (1, (.cells true configChecksQ3)), (2, (.buf 34 5 configChecksQ85)), (3, (.cells true configChecksQ151)), (4, (.cells true configChecksQ46)), (5, (.cells true configChecksQ46)), (6, (.cells true configChecksQ46)), (7, (.cells true configChecksQ46)), (8, (.cells true configChecksQ46)), (9, (.buf 34 5 configChecksQ87)), (10, (.cells true configChecksQ152))]
def configChecksW107 : MemoW := ⟨8, configChecksQ112, configChecksWm107, configChecksQ150, [], [⟨configChecksQ115, configChecksWm107, .ret (.int .i64 configChecksQ116)⟩, ⟨configChecksQ117, configChecksWm107, .ret (.int .i64 (.lit (4)))⟩]⟩
theorem configChecks_w107 : MemoW.ok (cfgN []) 3000 configChecksW107 = true := by kernel_rfl
def configChecksWm108 : Mem := memOf 11 [(0, (.cells true configChecksQ111)), (1, (.cells true configChecksQ3)), (2, (.buf 34 5 configChecksQ85)), (3, (.cells true configChecksQ151)), (4, (.cells true configChecksQ46)), (5, (.cells true configChecksQ46)), (6, (.cells true configChecksQ46)), (7, (.cells true configChecksQ46)), (8, (.cells true configChecksQ46)), (9, (.buf 34 5 configChecksQ87)), (10, (.cells true configChecksQ152))]
def configChecksW108 : MemoW := ⟨7, configChecksQ153, configChecksWm108, configChecksQ154, [], [⟨[], configChecksWm108, .ret (.int .i64 configChecksQ39)⟩]⟩
theorem configChecks_w108 : MemoW.ok (cfgN []) 3000 configChecksW108 = true := by kernel_rfl
def configChecksWm109 : Mem := memOf 11 [(0, (.cells true configChecksQ111)), (1, (.cells true configChecksQ3)), (2, (.buf 34 5 configChecksQ85)), (3, (.cells true configChecksQ151)), (4, (.cells true configChecksQ46)), (5, (.cells true configChecksQ46)), (6, (.cells true configChecksQ46)), (7, (.cells true configChecksQ46)), (8, (.cells true configChecksQ46)), (9, (.buf 34 5 configChecksQ87)), (10, (.cells true configChecksQ152))]
def configChecksW109 : MemoW := ⟨7, configChecksQ153, configChecksWm109, configChecksQ155, [], [⟨[], configChecksWm109, .ret (.int .i64 configChecksQ39)⟩]⟩
theorem configChecks_w109 : MemoW.ok (cfgN []) 3000 configChecksW109 = true := by kernel_rfl
def configChecksWm110 : Mem := memOf 11 [(0, (.cells true configChecksQ111)), (1, (.cells true configChecksQ3)), (2, (.buf 34 5 configChecksQ85)), (3, (.cells true configChecksQ151)), (4, (.cells true configChecksQ46)), (5, (.cells true configChecksQ46)), (6, (.cells true configChecksQ46)), (7, (.cells true configChecksQ46)), (8, (.cells true configChecksQ46)), (9, (.buf 34 5 configChecksQ87)), (10, (.cells true configChecksQ152))]
def configChecksW110 : MemoW := ⟨8, configChecksQ153, configChecksWm110, configChecksQ154, [], [⟨[], configChecksWm110, .ret (.int .i64 configChecksQ39)⟩]⟩
theorem configChecks_w110 : MemoW.ok (cfgN []) 3000 configChecksW110 = true := by kernel_rfl
def configChecksWm111 : Mem := memOf 11 [(0, (.cells true configChecksQ111)), (1, (.cells true configChecksQ3)), (2, (.buf 34 5 configChecksQ85)), (3, (.cells true configChecksQ151)), (4, (.cells true configChecksQ46)), (5, (.cells true configChecksQ46)), (6, (.cells true configChecksQ46)), (7, (.cells true configChecksQ46)), (8, (.cells true configChecksQ46)), (9, (.buf 34 5 configChecksQ87)), (10, (.cells true configChecksQ152))]
def configChecksW111 : MemoW := ⟨8, configChecksQ153, configChecksWm111, configChecksQ155, [], [⟨[], configChecksWm111, .ret (.int .i64 configChecksQ39)⟩]⟩
theorem configChecks_w111 : MemoW.ok (cfgN []) 3000 configChecksW111 = true := by kernel_rfl
def configChecksM16x0 : List MemoW := [configChecksW105, configChecksW106, configChecksW107, configChecksW108, configChecksW109, configChecksW110, configChecksW111]
set_option maxRecDepth 100000 in
theorem configChecks_h16x0 : ∀ ρ, HookOk (cfgN [configChecksM16x0]) ρ := cfgN_cons cfgN_nil (List.forall_mem_cons.2 ⟨configChecks_w105, (List.forall_mem_cons.2 ⟨configChecks_w106, (List.forall_mem_cons.2 ⟨configChecks_w107, (List.forall_mem_cons.2 ⟨configChecks_w108, (List.forall_mem_cons.2 ⟨configChecks_w109, (List.forall_mem_cons.2 ⟨configChecks_w110, (List.forall_mem_cons.2 ⟨configChecks_w111, (fun _ h => by cases h)⟩)⟩)⟩)⟩)⟩)⟩)⟩)
theorem configChecks_leaf16 : leafGood (cfgN [configChecksM16x0]) 3000 3 [28, 23, 3] configChecksL16 = true := by kernel_rfl
theorem configChecks_ok16 : LeafOk Try.checked.prog 3 [28, 23, 3] configChecksL16 := leaf_ofN configChecks_h16x0 configChecks_leaf16
end Go.Proofs.Ytlmchholjalfgaa
