/-
  Part 6 of the law BpduReads: some of its ways.
-/
import Derived.Test.YtcebclckjkiofaaBpduReadsR
namespace Go.Proofs.Ytcebclckjkiofaa
open Go.SX
def bpduReadsL0 : List Bool × PC := ([true], [((.ltI (.lit (300)) (.var 0)), true)])
theorem bpduReads_leaf0 : leafGood cfg 3000 8 [24] bpduReadsL0 = true := by kernel_rfl
theorem bpduReads_ok0 : LeafOk Try.checked.prog 8 [24] bpduReadsL0 := leaf_of bpduReads_leaf0
def bpduReadsL3 : List Bool × PC := ([true], [((.eqI (.wrap .u8 (.cell 0 (.lit (3)) 0)) (.lit (128))), true), ((.eqI (.wrap .u8 (.cell 0 (.lit (1)) 0)) (.lit (0))), true), ((.eqI (.wrap .u8 (.cell 0 (.lit (0)) 0)) (.lit (0))), true), ((.ltI (.var 0) (.lit (4))), false), ((.eqI (.var 0) (.lit (0))), false), ((.ltI (.lit (300)) (.var 0)), false)])
theorem bpduReads_leaf3 : leafGood cfg 3000 8 [24] bpduReadsL3 = true := by kernel_rfl
theorem bpduReads_ok3 : LeafOk Try.checked.prog 8 [24] bpduReadsL3 := leaf_of bpduReads_leaf3
def bpduReadsL8 : List Bool × PC := ([true], [((.ltI (.var 0) (.lit (35))), true), ((.ltI (.wrap .u8 (.cell 0 (.lit (2)) 0)) (.lit (2))), false), ((.eqI (.wrap .u8 (.cell 0 (.lit (3)) 0)) (.lit (2))), true), ((.eqI (.wrap .u8 (.cell 0 (.lit (3)) 0)) (.lit (0))), false), ((.eqI (.wrap .u8 (.cell 0 (.lit (3)) 0)) (.lit (128))), false), ((.eqI (.wrap .u8 (.cell 0 (.lit (1)) 0)) (.lit (0))), true), ((.eqI (.wrap .u8 (.cell 0 (.lit (0)) 0)) (.lit (0))), true), ((.ltI (.var 0) (.lit (4))), false), ((.eqI (.var 0) (.lit (0))), false), ((.ltI (.lit (300)) (.var 0)), false)])
def bpduReadsWm25 : Mem := memOf 1 [(0, (.arr ⟨false, 0, 1, [(.i .u8)], (.var 0), none, 0, []⟩))]
def bpduReadsW25 : MemoW := ⟨37, bpduReadsQ0, bpduReadsWm25, bpduReadsQ106, [], [⟨[], bpduReadsWm25, .ret (.tup bpduReadsQ14)⟩]⟩
theorem bpduReads_w25 : MemoW.ok (cfgN []) 3000 bpduReadsW25 = true := by kernel_rfl
def bpduReadsWm26 : Mem := memOf 2 [(0, (.arr ⟨false, 0, 1, [(.i .u8)], (.var 0), none, 0, []⟩)), (1, (.cells true bpduReadsQ13))]
def bpduReadsW26 : MemoW := ⟨39, bpduReadsQ0, bpduReadsWm26, bpduReadsQ106, [], [⟨[], bpduReadsWm26, .ret (.tup bpduReadsQ14)⟩]⟩
theorem bpduReads_w26 : MemoW.ok (cfgN []) 3000 bpduReadsW26 = true := by kernel_rfl
def bpduReadsM8x2 : List MemoW := [bpduReadsW25, bpduReadsW26]
set_option maxRecDepth 100000 in
theorem bpduReads_h8x2 : ∀ ρ, HookOk (cfgN [bpduReadsM8x2]) ρ := cfgN_cons cfgN_nil (List.forall_mem_cons.2 ⟨bpduReads_w25, (List.forall_mem_cons.2 ⟨bpduReads_w26, (fun _ h => by cases h)⟩)⟩)
theorem bpduReads_leaf8 : leafGood (cfgN [bpduReadsM8x2]) 3000 8 [24] bpduReadsL8 = true := by kernel_rfl
theorem bpduReads_ok8 : LeafOk Try.checked.prog 8 [24] bpduReadsL8 := leaf_ofN bpduReads_h8x2 bpduReads_leaf8
def bpduReadsL9 : List Bool × PC := ([true], [((.ltI (.var 0) (.lit (36))), true), ((.ltI (.var 0) (.lit (35))), false), ((.ltI (.wrap .u8 (.cell 0 (.lit (2)) 0)) (.lit (2))), false), ((.eqI (.wrap .u8 (.cell 0 (.lit (3)) 0)) (.lit (2))), true), ((.eqI (.wrap .u8 (.cell 0 (.lit (3)) 0)) (.lit (0))), false), ((.eqI (.wrap .u8 (.cell 0 (.lit (3)) 0)) (.lit (128))), false), ((.eqI (.wrap .u8 (.cell 0 (.lit (1)) 0)) (.lit (0))), true), ((.eqI (.wrap .u8 (.cell 0 (.lit (0)) 0)) (.lit (0))), true), ((.ltI (.var 0) (.lit (4))), false), ((.eqI (.var 0) (.lit (0))), false), ((.ltI (.lit (300)) (.var 0)), false)])
theorem bpduReads_leaf9 : leafGood cfg 3000 8 [24] bpduReadsL9 = true := by kernel_rfl
theorem bpduReads_ok9 : LeafOk Try.checked.prog 8 [24] bpduReadsL9 := leaf_of bpduReads_leaf9
def bpduReadsL14 : List Bool × PC := ([true], [((.eqI (.wrap .u8 (.cell 0 (.lit (1)) 0)) (.lit (0))), false), ((.eqI (.wrap .u8 (.cell 0 (.lit (0)) 0)) (.lit (0))), true), ((.ltI (.var 0) (.lit (4))), false), ((.eqI (.var 0) (.lit (0))), false), ((.ltI (.lit (300)) (.var 0)), false)])
theorem bpduReads_leaf14 : leafGood cfg 3000 8 [24] bpduReadsL14 = true := by kernel_rfl
theorem bpduReads_ok14 : LeafOk Try.checked.prog 8 [24] bpduReadsL14 := leaf_of bpduReads_leaf14
end Go.Proofs.Ytcebclckjkiofaa
