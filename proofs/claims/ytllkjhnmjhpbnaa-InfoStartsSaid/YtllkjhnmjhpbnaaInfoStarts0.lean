/-
  The tables of the law InfoStarts, and the calls of it that were looked at once.
-/
import Derived.Test.YtllkjhnmjhpbnaaRows
import Derived.ProofKit
import Derived.Test.YtllkjhnmjhpbnaaSXMemo
namespace Go.Proofs.Ytllkjhnmjhpbnaa
open Go.SX
theorem Try.own : ownKnob Try.prog.godebug = none := by kernel_rfl
theorem Try.laidOut : laidOutB Try.prog = true := by kernel_rfl
theorem Try.mixed : Try.prog.follows .mixedOrders = true := by kernel_rfl
noncomputable def cfg0 : Cfg := mkCfg Try.prog noHook (fun i => memB i [32, 40, 39, 13, 18, 31, 23, 12, 200040, 200039, 200032]) (fun i => memB i [172, 173, 174]) (fun i => memB i []) (fun i => memB i [13, 16, 151, 84, 152, 87, 165])
theorem cfg0_types : cfg0.Types := mkCfg_types _ _ _ _ _ _ Try.mixed
theorem cfg0_hooks : ∀ ρ, HookOk cfg0 ρ := noHook_ok _ _ _ _ _
def infoStartsMem0 : Mem := memOf 2 [(0, (.arr ⟨false, 0, 90, [(.i .u16), (.i .u32), .b, .b, .b, .b, (.i .i64), (.i .i64), (.i .i64), (.i .i64), (.i .i64), (.i .i64), (.i .i64), (.i .i64), (.i .i64), .b, .b, .b, .b, .b, .b, .b, .b, .b, .b, .b, .b, .b, .b, .b, .b, .b, .b, .b, .b, .b, .b, .b, .b, .b, .b, .b, .b, .b, (.i .i64), (.i .i64), (.i .i64), (.i .i64), (.i .u64), (.i .u32), (.i .u64), (.i .u16), (.i .u64), (.i .u32), (.i .u64), (.i .u16), (.i .u64), (.i .u32), (.i .u64), (.i .u16), (.i .i64), (.i .i64), (.i .i64), (.i .i64), (.i .i64), (.i .i64), (.i .i64), (.i .i64), (.i .i64), (.i .i64), (.i .i64), (.i .i64), (.i .i64), (.i .u8), (.i .u64), (.i .u32), (.i .u64), (.i .u16), (.i .u16), (.i .u16), (.i .u16), (.i .u16), (.i .i64), (.i .i64), (.i .i64), (.i .i64), (.i .i64), (.i .i64), (.i .i64), (.i .i64)], (.var 0), none, 0, []⟩)),
   (1, (.cells true [(.int .u64 (.cell 1000000 (.lit (0)) 0)), (.int .i64 (.cell 1000000 (.lit (0)) 1)), (.int .i64 (.cell 1000000 (.lit (0)) 2)), (.int .i64 (.cell 1000000 (.lit (0)) 3)), (.int .i64 (.cell 1000000 (.lit (0)) 4)), (.int .i64 (.cell 1000000 (.lit (0)) 5)), (.bool (.cell 1000000 (.lit (0)) 6)), (.int .u64 (.cell 1000000 (.lit (0)) 7)), (.int .u32 (.cell 1000000 (.lit (0)) 8)), (.int .u64 (.cell 1000000 (.lit (0)) 9)), (.int .u16 (.cell 1000000 (.lit (0)) 10)), (.int .u16 (.cell 1000000 (.lit (0)) 11)), (.int .i64 (.cell 1000000 (.lit (0)) 12)), (.int .i64 (.cell 1000000 (.lit (0)) 13)), (.int .i64 (.cell 1000000 (.lit (0)) 14)), (.int .i64 (.cell 1000000 (.lit (0)) 15)), (.int .i64 (.cell 1000000 (.lit (0)) 16)), (.slice 0 (.lit (0)) 0 (.var 0) none)]))]
def infoStartsMemo0 : Memo := ⟨13, [(.agg [(.int .u64 (.cell 1000000 (.lit (0)) 0)), (.int .i64 (.cell 1000000 (.lit (0)) 1)), (.int .i64 (.cell 1000000 (.lit (0)) 2)), (.int .i64 (.cell 1000000 (.lit (0)) 3)), (.int .i64 (.cell 1000000 (.lit (0)) 4)), (.int .i64 (.cell 1000000 (.lit (0)) 5)), (.bool (.cell 1000000 (.lit (0)) 6)), (.int .u64 (.cell 1000000 (.lit (0)) 7)), (.int .u32 (.cell 1000000 (.lit (0)) 8)), (.int .u64 (.cell 1000000 (.lit (0)) 9)), (.int .u16 (.cell 1000000 (.lit (0)) 10)), (.int .u16 (.cell 1000000 (.lit (0)) 11)), (.int .i64 (.cell 1000000 (.lit (0)) 12)), (.int .i64 (.cell 1000000 (.lit (0)) 13)), (.int .i64 (.cell 1000000 (.lit (0)) 14)), (.int .i64 (.cell 1000000 (.lit (0)) 15)), (.int .i64 (.cell 1000000 (.lit (0)) 16)), (.slice 0 (.lit (0)) 0 (.var 0) none)])], infoStartsMem0, [((.ltI (.var 0) (.lit (0))), false), ((.ltI (.lit (9223372036854775807)) (.var 0)), false)],
  [⟨[], infoStartsMem0, .ret (.bool (.lit false))⟩,
   ⟨[((.all 700000 (.var 0) (.ltI (.var 700000) (.var 0))), true), ((.ltI (.lit (20)) (.var 0)), false)], infoStartsMem0, .ret (.bool (.lit true))⟩]⟩
def infoStartsMem1 : Mem := memOf 1 [(0, (.cells true [(.int .u64 (.cell 1000000 (.lit (0)) 0)), (.int .i64 (.cell 1000000 (.lit (0)) 1)), (.int .i64 (.cell 1000000 (.lit (0)) 2)), (.int .i64 (.cell 1000000 (.lit (0)) 3)), (.int .i64 (.cell 1000000 (.lit (0)) 4)), (.int .i64 (.cell 1000000 (.lit (0)) 5)), (.bool (.cell 1000000 (.lit (0)) 6)), (.int .u64 (.cell 1000000 (.lit (0)) 7)), (.int .u32 (.cell 1000000 (.lit (0)) 8)), (.int .u64 (.cell 1000000 (.lit (0)) 9)), (.int .u16 (.cell 1000000 (.lit (0)) 10)), (.int .u16 (.cell 1000000 (.lit (0)) 11)), (.int .i64 (.cell 1000000 (.lit (0)) 12)), (.int .i64 (.cell 1000000 (.lit (0)) 13)), (.int .i64 (.cell 1000000 (.lit (0)) 14)), (.int .i64 (.cell 1000000 (.lit (0)) 15)), (.int .i64 (.cell 1000000 (.lit (0)) 16)), .nils]))]
def infoStartsMemo1 : Memo := ⟨13, [(.agg [(.int .u64 (.cell 1000000 (.lit (0)) 0)), (.int .i64 (.cell 1000000 (.lit (0)) 1)), (.int .i64 (.cell 1000000 (.lit (0)) 2)), (.int .i64 (.cell 1000000 (.lit (0)) 3)), (.int .i64 (.cell 1000000 (.lit (0)) 4)), (.int .i64 (.cell 1000000 (.lit (0)) 5)), (.bool (.cell 1000000 (.lit (0)) 6)), (.int .u64 (.cell 1000000 (.lit (0)) 7)), (.int .u32 (.cell 1000000 (.lit (0)) 8)), (.int .u64 (.cell 1000000 (.lit (0)) 9)), (.int .u16 (.cell 1000000 (.lit (0)) 10)), (.int .u16 (.cell 1000000 (.lit (0)) 11)), (.int .i64 (.cell 1000000 (.lit (0)) 12)), (.int .i64 (.cell 1000000 (.lit (0)) 13)), (.int .i64 (.cell 1000000 (.lit (0)) 14)), (.int .i64 (.cell 1000000 (.lit (0)) 15)), (.int .i64 (.cell 1000000 (.lit (0)) 16)), .nils])], infoStartsMem1, [],
  [⟨[], infoStartsMem1, .ret (.bool (.lit false))⟩,
   ⟨[], infoStartsMem1, .ret (.bool (.lit true))⟩]⟩
def infoStartsMemos : List Memo := [infoStartsMemo0, infoStartsMemo1]
noncomputable def cfg : Cfg := mkCfg Try.prog (memoHook infoStartsMemos) (fun i => memB i [32, 40, 39, 13, 18, 31, 23, 12, 200040, 200039, 200032]) (fun i => memB i [172, 173, 174]) (fun i => memB i []) (fun i => memB i [13, 16, 151, 84, 152, 87, 165])
theorem cfg_prog : cfg.P = Try.checked.prog := by kernel_rfl
theorem cfg_types : cfg.Types := mkCfg_types _ _ _ _ _ _ Try.mixed
theorem infoStarts_memos : infoStartsMemos.all (Memo.ok cfg0 3000) = true := by kernel_rfl
theorem cfg_hooks : ∀ ρ, HookOk cfg ρ := memoHook_ok cfg0_types cfg0_hooks (fuel := 3000) (fun e he => List.all_eq_true.1 infoStarts_memos e he) (by kernel_rfl) (by kernel_rfl)
end Go.Proofs.Ytllkjhnmjhpbnaa
