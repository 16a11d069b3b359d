/-
  Part 8 of the law BpduBytes: some of its ways.
-/
import Derived.Test.YtemmnagphjaigaaBpduBytesR
namespace Go.Proofs.Ytemmnagphjaigaa
open Go.SX
def bpduBytesL1 : List Bool × PC := ([true], [((.eqI (.var 0) (.lit (0))), true), ((.eqI (.cell 1000000 (.lit (0)) 0) (.lit (2))), true), ((.ltI (.lit (200)) (.var 0)), false)])
def bpduBytesWm0 : Mem := memOf 2 [(0, (.arr ⟨false, 0, 1, [(.i .u8)], (.var 0), none, 0, []⟩)), (1, (.cells true bpduBytesQ0))]
def bpduBytesW0 : MemoW := ⟨8, [(.agg bpduBytesQ0)], bpduBytesWm0, [(bpduBytesQ1, true), (bpduBytesQ2, true), (bpduBytesQ3, false), (bpduBytesQ4, false), (bpduBytesQ5, false)], [], [⟨bpduBytesQ24, bpduBytesWm0, .ret (.tup bpduBytesQ25)⟩, ⟨bpduBytesQ26, memOf 3 [(0, (.arr ⟨false, 0, 1, [(.i .u8)], (.var 0), none, 0, []⟩)), (1, (.cells true bpduBytesQ0)), (2, (.buf 5 1 bpduBytesQ27))], .ret (.tup bpduBytesQ28)⟩]⟩
theorem bpduBytes_w0 : MemoW.ok (cfgN []) 3000 bpduBytesW0 = true := by kernel_rfl
def bpduBytesWm1 : Mem := memOf 10 [(0, (.arr ⟨false, 0, 1, [(.i .u8)], (.var 0), none, 0, []⟩)), (1, (.cells true bpduBytesQ0)), (2, (.buf 5 1 bpduBytesQ27)), (3, (.cells true [])), (4, (.buf 5 1 bpduBytesQ27)), (5, (.cells true bpduBytesQ29)), (6, (.cells true bpduBytesQ29)), (7, (.cells true [(.int .i64 (.lit (0)))])), (8, (.buf 5 1 bpduBytesQ27)), (9, (.cells true [(.slice 8 (.lit (0)) 0 (.lit (4)) (some (.lit (-1)))), (.int .i64 (.lit (0)))]))]
def bpduBytesW1 : MemoW := ⟨29, bpduBytesQ30, bpduBytesWm1, bpduBytesQ31, [6, 9], [⟨[], memOf 10 [(0, (.arr ⟨false, 0, 1, [(.i .u8)], (.var 0), none, 0, []⟩)), (1, (.cells true bpduBytesQ0)), (2, (.buf 5 1 bpduBytesQ27)), (3, (.cells true [])), (4, (.buf 5 1 bpduBytesQ27)), (5, (.cells true bpduBytesQ29)), (6, (.cells true bpduBytesQ32)), (7, (.cells true [(.int .i64 (.lit (0)))])), (8, (.buf 5 1 bpduBytesQ27)), (9, (.cells true [(.slice 8 (.lit (0)) 0 (.lit (4)) (some (.lit (-1)))), (.int .i64 (.lit (4)))]))], .ret (.tup [])⟩]⟩
theorem bpduBytes_w1 : MemoW.ok (cfgN []) 3000 bpduBytesW1 = true := by kernel_rfl
def bpduBytesWm2 : Mem := memOf 6 [(0, (.arr ⟨false, 0, 1, [(.i .u8)], (.var 0), none, 0, []⟩)), (1, (.cells true bpduBytesQ0)), (2, (.buf 5 1 bpduBytesQ27)), (3, (.cells true [])), (4, (.buf 5 1 bpduBytesQ27)), (5, (.cells true bpduBytesQ32))]
def bpduBytesW2 : MemoW := ⟨12, [(.agg bpduBytesQ0)], bpduBytesWm2, bpduBytesQ31, [], [⟨[], memOf 7 [(0, (.arr ⟨false, 0, 1, [(.i .u8)], (.var 0), none, 0, []⟩)), (1, (.cells true bpduBytesQ0)), (2, (.buf 5 1 bpduBytesQ27)), (3, (.cells true [])), (4, (.buf 5 1 bpduBytesQ27)), (5, (.cells true bpduBytesQ32)), (6, (.cells true bpduBytesQ27))], .ret (.slice 6 (.lit (0)) 0 (.lit (4)) (some (.lit (4))))⟩]⟩
theorem bpduBytes_w2 : MemoW.ok (cfgN []) 3000 bpduBytesW2 = true := by kernel_rfl
def bpduBytesM1x2 : List MemoW := [bpduBytesW0, bpduBytesW1, bpduBytesW2]
set_option maxRecDepth 100000 in
theorem bpduBytes_h1x2 : ∀ ρ, HookOk (cfgN [bpduBytesM1x2]) ρ := cfgN_cons cfgN_nil (List.forall_mem_cons.2 ⟨bpduBytes_w0, (List.forall_mem_cons.2 ⟨bpduBytes_w1, (List.forall_mem_cons.2 ⟨bpduBytes_w2, (fun _ h => by cases h)⟩)⟩)⟩)
def bpduBytesWm3 : Mem := memOf 5 [(0, (.arr ⟨false, 0, 1, [(.i .u8)], (.var 0), none, 0, []⟩)), (1, (.cells true bpduBytesQ0)), (2, (.buf 5 1 bpduBytesQ27)), (3, (.cells true [])), (4, (.buf 5 1 bpduBytesQ27))]
def bpduBytesW3 : MemoW := ⟨11, [(.slice 4 (.lit (0)) 0 (.lit (4)) (some (.lit (-1))))], bpduBytesWm3, bpduBytesQ31, [], [⟨[], bpduBytesWm3, .ret (.tup bpduBytesQ33)⟩]⟩
theorem bpduBytes_w3 : MemoW.ok (cfgN [bpduBytesM1x2]) 3000 bpduBytesW3 = true := by kernel_rfl
def bpduBytesM1x3 : List MemoW := [bpduBytesW3]
set_option maxRecDepth 100000 in
theorem bpduBytes_h1x3 : ∀ ρ, HookOk (cfgN [bpduBytesM1x3, bpduBytesM1x2]) ρ := cfgN_cons bpduBytes_h1x2 (List.forall_mem_cons.2 ⟨bpduBytes_w3, (fun _ h => by cases h)⟩)
theorem bpduBytes_leaf1 : leafGood (cfgN [bpduBytesM1x3, bpduBytesM1x2]) 3000 3 [31, 32] bpduBytesL1 = true := by kernel_rfl
theorem bpduBytes_ok1 : LeafOk Try.checked.prog 3 [31, 32] bpduBytesL1 := leaf_ofN bpduBytes_h1x3 bpduBytes_leaf1
def bpduBytesL19 : List Bool × PC := ([false], [((.eqI (.cell 1000000 (.lit (0)) 0) (.lit (3))), false), ((.eqI (.cell 1000000 (.lit (0)) 0) (.lit (1))), false), ((.eqI (.cell 1000000 (.lit (0)) 0) (.lit (2))), false)])
theorem bpduBytes_leaf19 : leafGood cfg 3000 3 [31, 32] bpduBytesL19 = true := by kernel_rfl
theorem bpduBytes_ok19 : LeafOk Try.checked.prog 3 [31, 32] bpduBytesL19 := leaf_of bpduBytes_leaf19
end Go.Proofs.Ytemmnagphjaigaa
