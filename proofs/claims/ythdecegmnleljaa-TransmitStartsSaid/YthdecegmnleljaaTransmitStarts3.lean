/-
  Part 3 of the law TransmitStarts: some of its ways.
-/
import Derived.Test.YthdecegmnleljaaTransmitStartsR
namespace Go.Proofs.Ythdecegmnleljaa
open Go.SX
def transmitStartsL0 : List Bool × PC := ([true], [((.ltI (.lit (20)) (.var 0)), true)])
theorem transmitStarts_leaf0 : leafGood cfg 3000 12 [34, 3] transmitStartsL0 = true := by kernel_rfl
theorem transmitStarts_ok0 : LeafOk Try.checked.prog 12 [34, 3] transmitStartsL0 := leaf_of transmitStarts_leaf0
def transmitStartsL1 : List Bool × PC := ([true], [((.eqI (.var 0) (.lit (0))), true), ((.ltI (.lit (20)) (.var 0)), false)])
theorem transmitStarts_leaf1 : leafGood cfg 3000 12 [34, 3] transmitStartsL1 = true := by kernel_rfl
theorem transmitStarts_ok1 : LeafOk Try.checked.prog 12 [34, 3] transmitStartsL1 := leaf_of transmitStarts_leaf1
def transmitStartsL4 : List Bool × PC := ([true], [((.ltI (.cell 1000000 (.lit (0)) 18) (.var 0)), false), ((.eqI (.var 0) (.lit (0))), false), ((.ltI (.lit (20)) (.var 0)), false)])
def transmitStartsWm23 : Mem := memOf 2 [(0, (.arr ⟨false, 0, 90, transmitStartsQ0, (.var 0), none, 0, []⟩)), (1, (.cells true transmitStartsQ2))]
def transmitStartsW23 : MemoW := ⟨21, transmitStartsQ3, transmitStartsWm23, [((.lit true), true), (transmitStartsQ4, false), (transmitStartsQ6, false), (transmitStartsQ7, false), (transmitStartsQ4, false), (transmitStartsQ8, false), (transmitStartsQ9, false)], [], [⟨[], memOf 3 [(0, (.arr ⟨false, 0, 90, transmitStartsQ0, (.var 0), none, 0, []⟩)), (1, (.cells true transmitStartsQ2)), (2, (.arr ⟨true, 0, 90, transmitStartsQ0, (.var 0), none, 0, []⟩))], .ret (.agg transmitStartsQ10)⟩]⟩
theorem transmitStarts_w23 : MemoW.ok cfg 3000 transmitStartsW23 = true := by kernel_rfl
def transmitStartsWm24 : Mem := memOf 5 [(0, (.arr ⟨false, 0, 90, transmitStartsQ0, (.var 0), none, 0, []⟩)), (1, (.cells true transmitStartsQ2)), (2, (.arr ⟨true, 0, 90, transmitStartsQ0, (.var 0), none, 0, []⟩)), (3, (.cells true transmitStartsQ10)), (4, (.cells true transmitStartsQ16))]
def transmitStartsW24 : MemoW := ⟨49, [(.ptr 4 (.lit (0)) 0)], transmitStartsWm24, transmitStartsQ48, [], [⟨[], transmitStartsWm24, .ret (.agg transmitStartsQ30)⟩]⟩
theorem transmitStarts_w24 : MemoW.ok cfg 3000 transmitStartsW24 = true := by kernel_rfl
def transmitStartsWm25 : Mem := memOf 6 [(0, (.arr ⟨false, 0, 90, transmitStartsQ0, (.var 0), none, 0, []⟩)), (1, (.cells true transmitStartsQ2)), (2, (.arr ⟨true, 0, 90, transmitStartsQ0, (.var 0), none, 0, []⟩)), (3, (.cells true transmitStartsQ10)), (4, (.cells true transmitStartsQ16)), (5, (.cells true transmitStartsQ30))]
def transmitStartsW25 : MemoW := ⟨50, [(.ptr 4 (.lit (0)) 0)], transmitStartsWm25, transmitStartsQ48, [], [⟨[], transmitStartsWm25, .ret (.agg transmitStartsQ31)⟩]⟩
theorem transmitStarts_w25 : MemoW.ok cfg 3000 transmitStartsW25 = true := by kernel_rfl
def transmitStartsWm26 : Mem := memOf 6 [(0, (.arr ⟨false, 0, 90, transmitStartsQ0, (.var 0), none, 0, []⟩)), (1, (.cells true transmitStartsQ2)), (2, (.arr ⟨true, 0, 90, transmitStartsQ0, (.var 0), none, 0, []⟩)), (3, (.cells true transmitStartsQ10)), (4, (.cells true transmitStartsQ16)), (5, (.cells true transmitStartsQ30))]
def transmitStartsW26 : MemoW := ⟨51, transmitStartsQ32, transmitStartsWm26, transmitStartsQ49, [], [⟨[], transmitStartsWm26, .ret (.int .i64 (.lit (3)))⟩]⟩
theorem transmitStarts_w26 : MemoW.ok cfg 3000 transmitStartsW26 = true := by kernel_rfl
def transmitStartsWm27 : Mem := memOf 6 [(0, (.arr ⟨false, 0, 90, transmitStartsQ0, (.var 0), none, 0, []⟩)), (1, (.cells true transmitStartsQ2)), (2, (.arr ⟨true, 0, 90, transmitStartsQ0, (.var 0), none, 0, []⟩)), (3, (.cells true transmitStartsQ10)), (4, (.cells true transmitStartsQ16)), (5, (.cells true transmitStartsQ30))]
def transmitStartsW27 : MemoW := ⟨51, transmitStartsQ32, transmitStartsWm27, transmitStartsQ50, [], [⟨[], transmitStartsWm27, .ret (.int .i64 transmitStartsQ37)⟩]⟩
theorem transmitStarts_w27 : MemoW.ok cfg 3000 transmitStartsW27 = true := by kernel_rfl
def transmitStartsWm28 : Mem := memOf 5 [(0, (.arr ⟨false, 0, 90, transmitStartsQ0, (.var 0), none, 0, []⟩)), (1, (.cells true transmitStartsQ2)), (2, (.arr ⟨true, 800000, 90, transmitStartsQ0, (.var 0), none, 0, []⟩)), (3, (.cells true transmitStartsQ10)), (4, (.cells true transmitStartsQ16))]
def transmitStartsW28 : MemoW := ⟨49, [(.ptr 4 (.lit (0)) 0)], transmitStartsWm28, transmitStartsQ48, [], [⟨[], transmitStartsWm28, .ret (.agg transmitStartsQ30)⟩]⟩
theorem transmitStarts_w28 : MemoW.ok cfg 3000 transmitStartsW28 = true := by kernel_rfl
def transmitStartsWm29 : Mem := memOf 6 [(0, (.arr ⟨false, 0, 90, transmitStartsQ0, (.var 0), none, 0, []⟩)), (1, (.cells true transmitStartsQ2)), (2, (.arr ⟨true, 800000, 90, transmitStartsQ0, (.var 0), none, 0, []⟩)), (3, (.cells true transmitStartsQ10)), (4, (.cells true transmitStartsQ16)), (5, (.cells true transmitStartsQ30))]
def transmitStartsW29 : MemoW := ⟨50, [(.ptr 4 (.lit (0)) 0)], transmitStartsWm29, transmitStartsQ48, [], [⟨[], transmitStartsWm29, .ret (.agg transmitStartsQ31)⟩]⟩
theorem transmitStarts_w29 : MemoW.ok cfg 3000 transmitStartsW29 = true := by kernel_rfl
def transmitStartsWm30 : Mem := memOf 6 [(0, (.arr ⟨false, 0, 90, transmitStartsQ0, (.var 0), none, 0, []⟩)), (1, (.cells true transmitStartsQ2)), (2, (.arr ⟨true, 800000, 90, transmitStartsQ0, (.var 0), none, 0, []⟩)), (3, (.cells true transmitStartsQ10)), (4, (.cells true transmitStartsQ16)), (5, (.cells true transmitStartsQ30))]
def transmitStartsW30 : MemoW := ⟨51, transmitStartsQ32, transmitStartsWm30, transmitStartsQ49, [], [⟨[], transmitStartsWm30, .ret (.int .i64 (.lit (3)))⟩]⟩
theorem transmitStarts_w30 : MemoW.ok cfg 3000 transmitStartsW30 = true := by kernel_rfl
def transmitStartsWm31 : Mem := memOf 6 [(0, (.arr ⟨false, 0, 90, transmitStartsQ0, (.var 0), none, 0, []⟩)), (1, (.cells true transmitStartsQ2)), (2, (.arr ⟨true, 800000, 90, transmitStartsQ0, (.var 0), none, 0, []⟩)), (3, (.cells true transmitStartsQ10)), (4, (.cells true transmitStartsQ16)), (5, (.cells true transmitStartsQ30))]
def transmitStartsW31 : MemoW := ⟨51, transmitStartsQ32, transmitStartsWm31, transmitStartsQ50, [], [⟨[], transmitStartsWm31, .ret (.int .i64 transmitStartsQ37)⟩]⟩
theorem transmitStarts_w31 : MemoW.ok cfg 3000 transmitStartsW31 = true := by kernel_rfl
def transmitStartsWm32 : Mem := memOf 4 [(0, (.arr ⟨false, 0, 90, transmitStartsQ0, (.var 0), none, 0, []⟩)), (1, (.cells true transmitStartsQ2)), (2, (.arr ⟨true, 0, 90, transmitStartsQ0, (.var 0), none, 0, []⟩)), (3, (.cells true transmitStartsQ10))]
def transmitStartsW32 : MemoW := ⟨21, transmitStartsQ3, transmitStartsWm32, transmitStartsQ51, [], [⟨[], memOf 5 [(0, (.arr ⟨false, 0, 90, transmitStartsQ0, (.var 0), none, 0, []⟩)), (1, (.cells true transmitStartsQ2)), (2, (.arr ⟨true, 0, 90, transmitStartsQ0, (.var 0), none, 0, []⟩)), (3, (.cells true transmitStartsQ10)), (4, (.arr ⟨true, 0, 90, transmitStartsQ0, (.var 0), none, 0, []⟩))], .ret (.agg transmitStartsQ40)⟩]⟩
theorem transmitStarts_w32 : MemoW.ok cfg 3000 transmitStartsW32 = true := by kernel_rfl
def transmitStartsWm33 : Mem := memOf 5 [(0, (.arr ⟨false, 0, 90, transmitStartsQ0, (.var 0), none, 0, []⟩)), (1, (.cells true transmitStartsQ2)), (2, (.arr ⟨true, 0, 90, transmitStartsQ0, (.var 0), none, 0, []⟩)), (3, (.cells true transmitStartsQ10)), (4, (.arr ⟨true, 0, 90, transmitStartsQ0, (.var 0), none, 0, []⟩))]
def transmitStartsW33 : MemoW := ⟨23, transmitStartsQ41, transmitStartsWm33, transmitStartsQ51, [], [⟨[], transmitStartsWm33, .ret (.bool (.lit true))⟩]⟩
theorem transmitStarts_w33 : MemoW.ok cfg 3000 transmitStartsW33 = true := by kernel_rfl
theorem transmitStarts_leaf4 : leafGood (cfgW [transmitStartsW23, transmitStartsW24, transmitStartsW25, transmitStartsW26, transmitStartsW27, transmitStartsW28, transmitStartsW29, transmitStartsW30, transmitStartsW31, transmitStartsW32, transmitStartsW33]) 3000 12 [34, 3] transmitStartsL4 = true := by kernel_rfl
theorem transmitStarts_ok4 : LeafOk Try.checked.prog 12 [34, 3] transmitStartsL4 := leaf_ofW (List.forall_mem_cons.2 ⟨transmitStarts_w23, (List.forall_mem_cons.2 ⟨transmitStarts_w24, (List.forall_mem_cons.2 ⟨transmitStarts_w25, (List.forall_mem_cons.2 ⟨transmitStarts_w26, (List.forall_mem_cons.2 ⟨transmitStarts_w27, (List.forall_mem_cons.2 ⟨transmitStarts_w28, (List.forall_mem_cons.2 ⟨transmitStarts_w29, (List.forall_mem_cons.2 ⟨transmitStarts_w30, (List.forall_mem_cons.2 ⟨transmitStarts_w31, (List.forall_mem_cons.2 ⟨transmitStarts_w32, (List.forall_mem_cons.2 ⟨transmitStarts_w33, (fun _ h => by cases h)⟩)⟩)⟩)⟩)⟩)⟩)⟩)⟩)⟩)⟩)⟩) transmitStarts_leaf4
end Go.Proofs.Ythdecegmnleljaa
