/-
  Part 5 of the law BpduReads: some of its ways.
-/
import Derived.Test.YtcebclckjkiofaaBpduReadsR
namespace Go.Proofs.Ytcebclckjkiofaa
open Go.SX
def bpduReadsL1 : List Bool × PC := ([true], [((.eqI (.var 0) (.lit (0))), true), ((.ltI (.lit (300)) (.var 0)), false)])
theorem bpduReads_leaf1 : leafGood cfg 3000 8 [24] bpduReadsL1 = true := by kernel_rfl
theorem bpduReads_ok1 : LeafOk Try.checked.prog 8 [24] bpduReadsL1 := leaf_of bpduReads_leaf1
def bpduReadsL4 : List Bool × PC := ([true], [((.ltI (.var 0) (.lit (35))), true), ((.eqI (.wrap .u8 (.cell 0 (.lit (3)) 0)) (.lit (0))), true), ((.eqI (.wrap .u8 (.cell 0 (.lit (3)) 0)) (.lit (128))), false), ((.eqI (.wrap .u8 (.cell 0 (.lit (1)) 0)) (.lit (0))), true), ((.eqI (.wrap .u8 (.cell 0 (.lit (0)) 0)) (.lit (0))), true), ((.ltI (.var 0) (.lit (4))), false), ((.eqI (.var 0) (.lit (0))), false), ((.ltI (.lit (300)) (.var 0)), false)])
def bpduReadsWm0 : Mem := memOf 1 [(0, (.arr ⟨false, 0, 1, [(.i .u8)], (.var 0), none, 0, []⟩))]
def bpduReadsW0 : MemoW := ⟨37, bpduReadsQ0, bpduReadsWm0, bpduReadsQ12, [], [⟨[], bpduReadsWm0, .ret (.tup bpduReadsQ14)⟩]⟩
theorem bpduReads_w0 : MemoW.ok (cfgN []) 3000 bpduReadsW0 = true := by kernel_rfl
def bpduReadsWm1 : Mem := memOf 2 [(0, (.arr ⟨false, 0, 1, [(.i .u8)], (.var 0), none, 0, []⟩)), (1, (.cells true bpduReadsQ13))]
def bpduReadsW1 : MemoW := ⟨39, bpduReadsQ0, bpduReadsWm1, bpduReadsQ12, [], [⟨[], bpduReadsWm1, .ret (.tup bpduReadsQ14)⟩]⟩
theorem bpduReads_w1 : MemoW.ok (cfgN []) 3000 bpduReadsW1 = true := by kernel_rfl
def bpduReadsM4x2 : List MemoW := [bpduReadsW0, bpduReadsW1]
set_option maxRecDepth 100000 in
theorem bpduReads_h4x2 : ∀ ρ, HookOk (cfgN [bpduReadsM4x2]) ρ := cfgN_cons cfgN_nil (List.forall_mem_cons.2 ⟨bpduReads_w0, (List.forall_mem_cons.2 ⟨bpduReads_w1, (fun _ h => by cases h)⟩)⟩)
theorem bpduReads_leaf4 : leafGood (cfgN [bpduReadsM4x2]) 3000 8 [24] bpduReadsL4 = true := by kernel_rfl
theorem bpduReads_ok4 : LeafOk Try.checked.prog 8 [24] bpduReadsL4 := leaf_ofN bpduReads_h4x2 bpduReads_leaf4
def bpduReadsL6 : List Bool × PC := ([true], [((.ltI (.bin .add (.bin .mul (.wrap .u8 (.cell 0 (.lit (27)) 0)) (.lit (256))) (.wrap .u8 (.cell 0 (.lit (28)) 0))) (.bin .add (.bin .mul (.wrap .u8 (.cell 0 (.lit (29)) 0)) (.lit (256))) (.wrap .u8 (.cell 0 (.lit (30)) 0)))), false), ((.ltI (.var 0) (.lit (35))), false), ((.eqI (.wrap .u8 (.cell 0 (.lit (3)) 0)) (.lit (0))), true), ((.eqI (.wrap .u8 (.cell 0 (.lit (3)) 0)) (.lit (128))), false), ((.eqI (.wrap .u8 (.cell 0 (.lit (1)) 0)) (.lit (0))), true), ((.eqI (.wrap .u8 (.cell 0 (.lit (0)) 0)) (.lit (0))), true), ((.ltI (.var 0) (.lit (4))), false), ((.eqI (.var 0) (.lit (0))), false), ((.ltI (.lit (300)) (.var 0)), false)])
theorem bpduReads_leaf6 : leafGood cfg 3000 8 [24] bpduReadsL6 = true := by kernel_rfl
theorem bpduReads_ok6 : LeafOk Try.checked.prog 8 [24] bpduReadsL6 := leaf_of bpduReads_leaf6
def bpduReadsL13 : List Bool × PC := ([true], [((.eqI (.wrap .u8 (.cell 0 (.lit (3)) 0)) (.lit (2))), false), ((.eqI (.wrap .u8 (.cell 0 (.lit (3)) 0)) (.lit (0))), false), ((.eqI (.wrap .u8 (.cell 0 (.lit (3)) 0)) (.lit (128))), false), ((.eqI (.wrap .u8 (.cell 0 (.lit (1)) 0)) (.lit (0))), true), ((.eqI (.wrap .u8 (.cell 0 (.lit (0)) 0)) (.lit (0))), true), ((.ltI (.var 0) (.lit (4))), false), ((.eqI (.var 0) (.lit (0))), false), ((.ltI (.lit (300)) (.var 0)), false)])
theorem bpduReads_leaf13 : leafGood cfg 3000 8 [24] bpduReadsL13 = true := by kernel_rfl
theorem bpduReads_ok13 : LeafOk Try.checked.prog 8 [24] bpduReadsL13 := leaf_of bpduReads_leaf13
def bpduReadsL16 : List Bool × PC := ([false], [])
theorem bpduReads_leaf16 : leafGood cfg 3000 8 [24] bpduReadsL16 = true := by kernel_rfl
theorem bpduReads_ok16 : LeafOk Try.checked.prog 8 [24] bpduReadsL16 := leaf_of bpduReads_leaf16
end Go.Proofs.Ytcebclckjkiofaa
