/-
  Part 2 of the law TransmitStarts: some of its ways.
-/
import Derived.Test.YthdecegmnleljaaTransmitStartsR
namespace Go.Proofs.Ythdecegmnleljaa
open Go.SX
def transmitStartsL2 : List Bool × PC := ([true], [((.ltI (.cell 1000000 (.lit (0)) 18) (.lit (0))), true), ((.ltI (.cell 1000000 (.lit (0)) 18) (.var 0)), true), ((.eqI (.var 0) (.lit (0))), false), ((.ltI (.lit (20)) (.var 0)), false)])
def transmitStartsWm0 : Mem := memOf 2 [(0, (.arr ⟨false, 0, 90, transmitStartsQ0, (.var 0), none, 0, []⟩)), (1, (.cells true transmitStartsQ2))]
def transmitStartsW0 : MemoW := ⟨21, transmitStartsQ3, transmitStartsWm0, [((.lit true), true), (transmitStartsQ4, false), (transmitStartsQ5, true), (transmitStartsQ6, true), (transmitStartsQ7, false), (transmitStartsQ4, false), (transmitStartsQ8, false), (transmitStartsQ9, false)], [], [⟨[], memOf 3 [(0, (.arr ⟨false, 0, 90, transmitStartsQ0, (.var 0), none, 0, []⟩)), (1, (.cells true transmitStartsQ2)), (2, (.arr ⟨true, 0, 90, transmitStartsQ0, (.var 0), none, 0, []⟩))], .ret (.agg transmitStartsQ10)⟩]⟩
theorem transmitStarts_w0 : MemoW.ok cfg 3000 transmitStartsW0 = true := by kernel_rfl
def transmitStartsWm1 : Mem := memOf 5 [(0, (.arr ⟨false, 0, 90, transmitStartsQ0, (.var 0), none, 0, []⟩)), (1, (.cells true transmitStartsQ2)), (2, (.arr ⟨true, 0, 90, transmitStartsQ0, (.var 0), none, 0, []⟩)), (3, (.cells true transmitStartsQ10)), (4, (.cells true transmitStartsQ16))]
def transmitStartsW1 : MemoW := ⟨49, [(.ptr 4 (.lit (0)) 0)], transmitStartsWm1, transmitStartsQ19, [], [⟨[], transmitStartsWm1, .ret (.agg transmitStartsQ30)⟩]⟩
theorem transmitStarts_w1 : MemoW.ok cfg 3000 transmitStartsW1 = true := by kernel_rfl
def transmitStartsWm2 : Mem := memOf 6 [(0, (.arr ⟨false, 0, 90, transmitStartsQ0, (.var 0), none, 0, []⟩)), (1, (.cells true transmitStartsQ2)), (2, (.arr ⟨true, 0, 90, transmitStartsQ0, (.var 0), none, 0, []⟩)), (3, (.cells true transmitStartsQ10)), (4, (.cells true transmitStartsQ16)), (5, (.cells true transmitStartsQ30))]
def transmitStartsW2 : MemoW := ⟨50, [(.ptr 4 (.lit (0)) 0)], transmitStartsWm2, transmitStartsQ19, [], [⟨[], transmitStartsWm2, .ret (.agg transmitStartsQ31)⟩]⟩
theorem transmitStarts_w2 : MemoW.ok cfg 3000 transmitStartsW2 = true := by kernel_rfl
def transmitStartsWm3 : Mem := memOf 6 [(0, (.arr ⟨false, 0, 90, transmitStartsQ0, (.var 0), none, 0, []⟩)), (1, (.cells true transmitStartsQ2)), (2, (.arr ⟨true, 0, 90, transmitStartsQ0, (.var 0), none, 0, []⟩)), (3, (.cells true transmitStartsQ10)), (4, (.cells true transmitStartsQ16)), (5, (.cells true transmitStartsQ30))]
def transmitStartsW3 : MemoW := ⟨51, transmitStartsQ32, transmitStartsWm3, transmitStartsQ33, [], [⟨[], transmitStartsWm3, .ret (.int .i64 (.lit (3)))⟩]⟩
theorem transmitStarts_w3 : MemoW.ok cfg 3000 transmitStartsW3 = true := by kernel_rfl
def transmitStartsWm4 : Mem := memOf 6 [(0, (.arr ⟨false, 0, 90, transmitStartsQ0, (.var 0), none, 0, []⟩)), (1, (.cells true transmitStartsQ2)), (2, (.arr ⟨true, 0, 90, transmitStartsQ0, (.var 0), none, 0, []⟩)), (3, (.cells true transmitStartsQ10)), (4, (.cells true transmitStartsQ16)), (5, (.cells true transmitStartsQ30))]
def transmitStartsW4 : MemoW := ⟨51, transmitStartsQ32, transmitStartsWm4, transmitStartsQ36, [], [⟨[], transmitStartsWm4, .ret (.int .i64 transmitStartsQ37)⟩]⟩
theorem transmitStarts_w4 : MemoW.ok cfg 3000 transmitStartsW4 = true := by kernel_rfl
def transmitStartsWm5 : Mem := memOf 5 [(0, (.arr ⟨false, 0, 90, transmitStartsQ0, (.var 0), none, 0, []⟩)), (1, (.cells true transmitStartsQ2)), (2, (.arr ⟨true, 800000, 90, transmitStartsQ0, (.var 0), none, 0, []⟩)), (3, (.cells true transmitStartsQ10)), (4, (.cells true transmitStartsQ16))]
def transmitStartsW5 : MemoW := ⟨49, [(.ptr 4 (.lit (0)) 0)], transmitStartsWm5, transmitStartsQ19, [], [⟨[], transmitStartsWm5, .ret (.agg transmitStartsQ30)⟩]⟩
theorem transmitStarts_w5 : MemoW.ok cfg 3000 transmitStartsW5 = true := by kernel_rfl
def transmitStartsWm6 : Mem := memOf 6 [(0, (.arr ⟨false, 0, 90, transmitStartsQ0, (.var 0), none, 0, []⟩)), (1, (.cells true transmitStartsQ2)), (2, (.arr ⟨true, 800000, 90, transmitStartsQ0, (.var 0), none, 0, []⟩)), (3, (.cells true transmitStartsQ10)), (4, (.cells true transmitStartsQ16)), (5, (.cells true transmitStartsQ30))]
def transmitStartsW6 : MemoW := ⟨50, [(.ptr 4 (.lit (0)) 0)], transmitStartsWm6, transmitStartsQ19, [], [⟨[], transmitStartsWm6, .ret (.agg transmitStartsQ31)⟩]⟩
theorem transmitStarts_w6 : MemoW.ok cfg 3000 transmitStartsW6 = true := by kernel_rfl
def transmitStartsWm7 : Mem := memOf 6 [(0, (.arr ⟨false, 0, 90, transmitStartsQ0, (.var 0), none, 0, []⟩)), (1, (.cells true transmitStartsQ2)), (2, (.arr ⟨true, 800000, 90, transmitStartsQ0, (.var 0), none, 0, []⟩)), (3, (.cells true transmitStartsQ10)), (4, (.cells true transmitStartsQ16)), (5, (.cells true transmitStartsQ30))]
def transmitStartsW7 : MemoW := ⟨51, transmitStartsQ32, transmitStartsWm7, transmitStartsQ33, [], [⟨[], transmitStartsWm7, .ret (.int .i64 (.lit (3)))⟩]⟩
theorem transmitStarts_w7 : MemoW.ok cfg 3000 transmitStartsW7 = true := by kernel_rfl
def transmitStartsWm8 : Mem := memOf 6 [(0, (.arr ⟨false, 0, 90, transmitStartsQ0, (.var 0), none, 0, []⟩)), (1, (.cells true transmitStartsQ2)), (2, (.arr ⟨true, 800000, 90, transmitStartsQ0, (.var 0), none, 0, []⟩)), (3, (.cells true transmitStartsQ10)), (4, (.cells true transmitStartsQ16)), (5, (.cells true transmitStartsQ30))]
def transmitStartsW8 : MemoW := ⟨51, transmitStartsQ32, transmitStartsWm8, transmitStartsQ36, [], [⟨[], transmitStartsWm8, .ret (.int .i64 transmitStartsQ37)⟩]⟩
theorem transmitStarts_w8 : MemoW.ok cfg 3000 transmitStartsW8 = true := by kernel_rfl
def transmitStartsWm9 : Mem := memOf 4 [(0, (.arr ⟨false, 0, 90, transmitStartsQ0, (.var 0), none, 0, []⟩)), (1, (.cells true transmitStartsQ2)), (2, (.arr ⟨true, 0, 90, transmitStartsQ0, (.var 0), none, 0, []⟩)), (3, (.cells true transmitStartsQ10))]
def transmitStartsW9 : MemoW := ⟨21, transmitStartsQ3, transmitStartsWm9, transmitStartsQ39, [], [⟨[], memOf 5 [(0, (.arr ⟨false, 0, 90, transmitStartsQ0, (.var 0), none, 0, []⟩)), (1, (.cells true transmitStartsQ2)), (2, (.arr ⟨true, 0, 90, transmitStartsQ0, (.var 0), none, 0, []⟩)), (3, (.cells true transmitStartsQ10)), (4, (.arr ⟨true, 0, 90, transmitStartsQ0, (.var 0), none, 0, []⟩))], .ret (.agg transmitStartsQ40)⟩]⟩
theorem transmitStarts_w9 : MemoW.ok cfg 3000 transmitStartsW9 = true := by kernel_rfl
def transmitStartsWm10 : Mem := memOf 5 [(0, (.arr ⟨false, 0, 90, transmitStartsQ0, (.var 0), none, 0, []⟩)), (1, (.cells true transmitStartsQ2)), (2, (.arr ⟨true, 0, 90, transmitStartsQ0, (.var 0), none, 0, []⟩)), (3, (.cells true transmitStartsQ10)), (4, (.arr ⟨true, 0, 90, transmitStartsQ0, (.var 0), none, 0, []⟩))]
def transmitStartsW10 : MemoW := ⟨23, transmitStartsQ41, transmitStartsWm10, transmitStartsQ39, [], [⟨[], transmitStartsWm10, .ret (.bool (.lit true))⟩]⟩
theorem transmitStarts_w10 : MemoW.ok cfg 3000 transmitStartsW10 = true := by kernel_rfl
theorem transmitStarts_leaf2 : leafGood (cfgW [transmitStartsW0, transmitStartsW1, transmitStartsW2, transmitStartsW3, transmitStartsW4, transmitStartsW5, transmitStartsW6, transmitStartsW7, transmitStartsW8, transmitStartsW9, transmitStartsW10]) 3000 12 [34, 3] transmitStartsL2 = true := by kernel_rfl
theorem transmitStarts_ok2 : LeafOk Try.checked.prog 12 [34, 3] transmitStartsL2 := leaf_ofW (List.forall_mem_cons.2 ⟨transmitStarts_w0, (List.forall_mem_cons.2 ⟨transmitStarts_w1, (List.forall_mem_cons.2 ⟨transmitStarts_w2, (List.forall_mem_cons.2 ⟨transmitStarts_w3, (List.forall_mem_cons.2 ⟨transmitStarts_w4, (List.forall_mem_cons.2 ⟨transmitStarts_w5, (List.forall_mem_cons.2 ⟨transmitStarts_w6, (List.forall_mem_cons.2 ⟨transmitStarts_w7, (List.forall_mem_cons.2 ⟨transmitStarts_w8, (List.forall_mem_cons.2 ⟨transmitStarts_w9, (List.forall_mem_cons.2 ⟨transmitStarts_w10, (fun _ h => by cases h)⟩)⟩)⟩)⟩)⟩)⟩)⟩)⟩)⟩)⟩)⟩) transmitStarts_leaf2
def transmitStartsL5 : List Bool × PC := ([false], [])
theorem transmitStarts_leaf5 : leafGood cfg 3000 12 [34, 3] transmitStartsL5 = true := by kernel_rfl
theorem transmitStarts_ok5 : LeafOk Try.checked.prog 12 [34, 3] transmitStartsL5 := leaf_of transmitStarts_leaf5
end Go.Proofs.Ythdecegmnleljaa
