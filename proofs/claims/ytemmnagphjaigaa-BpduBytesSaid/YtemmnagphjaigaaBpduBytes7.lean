/-
  Part 7 of the law BpduBytes: some of its ways.
-/
import Derived.Test.YtemmnagphjaigaaBpduBytesR
namespace Go.Proofs.Ytemmnagphjaigaa
open Go.SX
def bpduBytesL2 : List Bool × PC := ([true], [((.eqI (.var 0) (.lit (0))), false), ((.eqI (.cell 1000000 (.lit (0)) 0) (.lit (2))), true), ((.ltI (.lit (200)) (.var 0)), false)])
def bpduBytesWm4 : Mem := memOf 2 [(0, (.arr ⟨false, 0, 1, [(.i .u8)], (.var 0), none, 0, []⟩)), (1, (.cells true bpduBytesQ0))]
def bpduBytesW4 : MemoW := ⟨8, [(.agg bpduBytesQ0)], bpduBytesWm4, [(bpduBytesQ1, false), (bpduBytesQ2, true), (bpduBytesQ3, false), (bpduBytesQ4, false), (bpduBytesQ5, false)], [], [⟨bpduBytesQ24, bpduBytesWm4, .ret (.tup bpduBytesQ25)⟩, ⟨bpduBytesQ26, memOf 3 [(0, (.arr ⟨false, 0, 1, [(.i .u8)], (.var 0), none, 0, []⟩)), (1, (.cells true bpduBytesQ0)), (2, (.buf 5 1 bpduBytesQ27))], .ret (.tup bpduBytesQ28)⟩]⟩
theorem bpduBytes_w4 : MemoW.ok (cfgN []) 3000 bpduBytesW4 = true := by kernel_rfl
def bpduBytesWm5 : Mem := memOf 10 [(0, (.arr ⟨false, 0, 1, [(.i .u8)], (.var 0), none, 0, []⟩)), (1, (.cells true bpduBytesQ0)), (2, (.buf 5 1 bpduBytesQ27)), (3, (.cells true [])), (4, (.rop 5 bpduBytesQ27 0 0 (.var 0))), (5, (.cells true bpduBytesQ29)), (6, (.cells true bpduBytesQ29)), (7, (.cells true [(.int .i64 (.lit (0)))])), (8, (.rop 5 bpduBytesQ27 0 0 (.var 0))), (9, (.cells true [(.slice 8 (.lit (0)) 0 bpduBytesQ34 (some (.lit (-1)))), (.int .i64 (.lit (0)))]))]
def bpduBytesW5 : MemoW := ⟨29, bpduBytesQ30, bpduBytesWm5, bpduBytesQ35, [6, 9], [⟨[], memOf 10 [(0, (.arr ⟨false, 0, 1, [(.i .u8)], (.var 0), none, 0, []⟩)), (1, (.cells true bpduBytesQ0)), (2, (.buf 5 1 bpduBytesQ27)), (3, (.cells true [])), (4, (.rop 5 bpduBytesQ27 0 0 (.var 0))), (5, (.cells true bpduBytesQ29)), (6, (.cells true bpduBytesQ32)), (7, (.cells true [(.int .i64 (.lit (0)))])), (8, (.rop 5 bpduBytesQ27 0 0 (.var 0))), (9, (.cells true [(.slice 8 (.lit (0)) 0 bpduBytesQ34 (some (.lit (-1)))), (.int .i64 (.lit (4)))]))], .ret (.tup [])⟩]⟩
theorem bpduBytes_w5 : MemoW.ok (cfgN []) 3000 bpduBytesW5 = true := by kernel_rfl
def bpduBytesWm6 : Mem := memOf 11 [(0, (.arr ⟨false, 0, 1, [(.i .u8)], (.var 0), none, 0, []⟩)), (1, (.cells true bpduBytesQ0)), (2, (.buf 5 1 bpduBytesQ27)), (3, (.cells true [])), (5, (.rop 5 bpduBytesQ27 0 0 (.var 0))), (6, (.cells true bpduBytesQ29)), (7, (.cells true bpduBytesQ29)), (8, (.cells true [(.int .i64 (.lit (0)))])), (9, (.rop 5 bpduBytesQ27 0 0 (.var 0))), (10, (.cells true [(.slice 9 (.lit (0)) 0 bpduBytesQ34 (some (.lit (-1)))), (.int .i64 (.lit (0)))]))]
def bpduBytesW6 : MemoW := ⟨29, bpduBytesQ36, bpduBytesWm6, bpduBytesQ35, [7, 10], [⟨[], memOf 11 [(0, (.arr ⟨false, 0, 1, [(.i .u8)], (.var 0), none, 0, []⟩)), (1, (.cells true bpduBytesQ0)), (2, (.buf 5 1 bpduBytesQ27)), (3, (.cells true [])), (5, (.rop 5 bpduBytesQ27 0 0 (.var 0))), (6, (.cells true bpduBytesQ29)), (7, (.cells true bpduBytesQ32)), (8, (.cells true [(.int .i64 (.lit (0)))])), (9, (.rop 5 bpduBytesQ27 0 0 (.var 0))), (10, (.cells true [(.slice 9 (.lit (0)) 0 bpduBytesQ34 (some (.lit (-1)))), (.int .i64 (.lit (4)))]))], .ret (.tup [])⟩]⟩
theorem bpduBytes_w6 : MemoW.ok (cfgN []) 3000 bpduBytesW6 = true := by kernel_rfl
def bpduBytesWm7 : Mem := memOf 6 [(0, (.arr ⟨false, 0, 1, [(.i .u8)], (.var 0), none, 0, []⟩)), (1, (.cells true bpduBytesQ0)), (2, (.buf 5 1 bpduBytesQ27)), (3, (.cells true [])), (4, (.rop 5 bpduBytesQ27 0 0 (.var 0))), (5, (.cells true bpduBytesQ32))]
def bpduBytesW7 : MemoW := ⟨12, [(.agg bpduBytesQ0)], bpduBytesWm7, bpduBytesQ35, [], [⟨[], memOf 7 [(0, (.arr ⟨false, 0, 1, [(.i .u8)], (.var 0), none, 0, []⟩)), (1, (.cells true bpduBytesQ0)), (2, (.buf 5 1 bpduBytesQ27)), (3, (.cells true [])), (4, (.rop 5 bpduBytesQ27 0 0 (.var 0))), (5, (.cells true bpduBytesQ32)), (6, (.cells true bpduBytesQ27))], .ret (.slice 6 (.lit (0)) 0 (.lit (4)) (some (.lit (4))))⟩]⟩
theorem bpduBytes_w7 : MemoW.ok (cfgN []) 3000 bpduBytesW7 = true := by kernel_rfl
def bpduBytesWm8 : Mem := memOf 7 [(0, (.arr ⟨false, 0, 1, [(.i .u8)], (.var 0), none, 0, []⟩)), (1, (.cells true bpduBytesQ0)), (2, (.buf 5 1 bpduBytesQ27)), (3, (.cells true [])), (5, (.rop 5 bpduBytesQ27 0 0 (.var 0))), (6, (.cells true bpduBytesQ32))]
def bpduBytesW8 : MemoW := ⟨12, [(.agg bpduBytesQ0)], bpduBytesWm8, bpduBytesQ35, [], [⟨[], memOf 8 [(0, (.arr ⟨false, 0, 1, [(.i .u8)], (.var 0), none, 0, []⟩)), (1, (.cells true bpduBytesQ0)), (2, (.buf 5 1 bpduBytesQ27)), (3, (.cells true [])), (5, (.rop 5 bpduBytesQ27 0 0 (.var 0))), (6, (.cells true bpduBytesQ32)), (7, (.cells true bpduBytesQ27))], .ret (.slice 7 (.lit (0)) 0 (.lit (4)) (some (.lit (4))))⟩]⟩
theorem bpduBytes_w8 : MemoW.ok (cfgN []) 3000 bpduBytesW8 = true := by kernel_rfl
def bpduBytesM2x2 : List MemoW := [bpduBytesW4, bpduBytesW5, bpduBytesW6, bpduBytesW7, bpduBytesW8]
set_option maxRecDepth 100000 in
theorem bpduBytes_h2x2 : ∀ ρ, HookOk (cfgN [bpduBytesM2x2]) ρ := cfgN_cons cfgN_nil (List.forall_mem_cons.2 ⟨bpduBytes_w4, (List.forall_mem_cons.2 ⟨bpduBytes_w5, (List.forall_mem_cons.2 ⟨bpduBytes_w6, (List.forall_mem_cons.2 ⟨bpduBytes_w7, (List.forall_mem_cons.2 ⟨bpduBytes_w8, (fun _ h => by cases h)⟩)⟩)⟩)⟩)⟩)
def bpduBytesWm9 : Mem := memOf 5 [(0, (.arr ⟨false, 0, 1, [(.i .u8)], (.var 0), none, 0, []⟩)), (1, (.cells true bpduBytesQ0)), (2, (.buf 5 1 bpduBytesQ27)), (3, (.cells true [])), (4, (.rop 5 bpduBytesQ27 0 0 (.var 0)))]
def bpduBytesW9 : MemoW := ⟨11, [(.slice 4 (.lit (0)) 0 bpduBytesQ34 (some (.lit (-1))))], bpduBytesWm9, bpduBytesQ35, [], [⟨[], bpduBytesWm9, .ret (.tup bpduBytesQ33)⟩]⟩
theorem bpduBytes_w9 : MemoW.ok (cfgN [bpduBytesM2x2]) 3000 bpduBytesW9 = true := by kernel_rfl
def bpduBytesWm10 : Mem := memOf 6 [(0, (.arr ⟨false, 0, 1, [(.i .u8)], (.var 0), none, 0, []⟩)), (1, (.cells true bpduBytesQ0)), (2, (.buf 5 1 bpduBytesQ27)), (3, (.cells true [])), (5, (.rop 5 bpduBytesQ27 0 0 (.var 0)))]
def bpduBytesW10 : MemoW := ⟨11, [(.slice 5 (.lit (0)) 0 bpduBytesQ34 (some (.lit (-1))))], bpduBytesWm10, bpduBytesQ35, [], [⟨[], memOf 6 [(0, (.arr ⟨false, 0, 1, [(.i .u8)], (.var 0), none, 0, []⟩)), (1, (.cells true bpduBytesQ0)), (2, (.buf 5 1 bpduBytesQ27)), (3, (.cells true [])), (5, (.rop 5 bpduBytesQ27 0 0 (.var 0)))], .ret (.tup bpduBytesQ33)⟩]⟩
theorem bpduBytes_w10 : MemoW.ok (cfgN [bpduBytesM2x2]) 3000 bpduBytesW10 = true := by kernel_rfl
def bpduBytesM2x3 : List MemoW := [bpduBytesW9, bpduBytesW10]
set_option maxRecDepth 100000 in
theorem bpduBytes_h2x3 : ∀ ρ, HookOk (cfgN [bpduBytesM2x3, bpduBytesM2x2]) ρ := cfgN_cons bpduBytes_h2x2 (List.forall_mem_cons.2 ⟨bpduBytes_w9, (List.forall_mem_cons.2 ⟨bpduBytes_w10, (fun _ h => by cases h)⟩)⟩)
theorem bpduBytes_leaf2 : leafGood (cfgN [bpduBytesM2x3, bpduBytesM2x2]) 3000 3 [31, 32] bpduBytesL2 = true := by kernel_rfl
theorem bpduBytes_ok2 : LeafOk Try.checked.prog 3 [31, 32] bpduBytesL2 := leaf_ofN bpduBytes_h2x3 bpduBytes_leaf2
end Go.Proofs.Ytemmnagphjaigaa
