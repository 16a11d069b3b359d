/-
  The law BpduBytes returns true for every input, and its arguments read as they did. Conditions: none.
-/
import Derived.Test.YtemmnagphjaigaaBpduBytes1
import Derived.Test.YtemmnagphjaigaaBpduBytes2
import Derived.Test.YtemmnagphjaigaaBpduBytes3
import Derived.Test.YtemmnagphjaigaaBpduBytes4
import Derived.Test.YtemmnagphjaigaaBpduBytes5
import Derived.Test.YtemmnagphjaigaaBpduBytes6
import Derived.Test.YtemmnagphjaigaaBpduBytes7
import Derived.Test.YtemmnagphjaigaaBpduBytes8
import Derived.Test.YtemmnagphjaigaaBpduBytes9
import Derived.Test.YtemmnagphjaigaaBpduBytes10
namespace Go.Proofs.Ytemmnagphjaigaa
open Go.SX
def bpduBytesTree : List (List Bool × Sp) :=
  [([true], (.node (.ltI (.lit (200)) (.var 0))
   .leaf
   (.node (.eqI (.cell 1000000 (.lit (0)) 0) (.lit (2)))
   (.node (.eqI (.var 0) (.lit (0)))
   .leaf
   .leaf)
   (.node (.eqI (.cell 1000000 (.lit (0)) 0) (.lit (1)))
   (.node (.eqI (.bin (.bandn .u8) (.wrap .u8 (.cell 1000000 (.lit (0)) 1)) (.lit (129))) (.lit (0)))
   (.node (.ltI (.wrap .u16 (.cell 1000000 (.lit (0)) 6)) (.wrap .u16 (.cell 1000000 (.lit (0)) 7)))
   (.node (.eqI (.var 0) (.lit (0)))
   .leaf
   .leaf)
   .leaf)
   .leaf)
   (.node (.eqI (.cell 1000000 (.lit (0)) 0) (.lit (3)))
   (.node (.ltI (.wrap .u16 (.cell 1000000 (.lit (0)) 6)) (.wrap .u16 (.cell 1000000 (.lit (0)) 7)))
   (.node (.eqI (.bin .rem (.bin .quo (.wrap .u8 (.cell 1000000 (.lit (0)) 1)) (.lit (4))) (.lit (4))) (.lit (0)))
   .leaf
   (.node (.eqI (.var 0) (.lit (0)))
   .leaf
   .leaf))
   .leaf)
   .leaf))))),
  ([false], (.node (.eqI (.cell 1000000 (.lit (0)) 0) (.lit (2)))
   .leaf
   (.node (.eqI (.cell 1000000 (.lit (0)) 0) (.lit (1)))
   (.node (.eqI (.bin (.bandn .u8) (.wrap .u8 (.cell 1000000 (.lit (0)) 1)) (.lit (129))) (.lit (0)))
   (.node (.ltI (.wrap .u16 (.cell 1000000 (.lit (0)) 6)) (.wrap .u16 (.cell 1000000 (.lit (0)) 7)))
   .leaf
   .leaf)
   .leaf)
   (.node (.eqI (.cell 1000000 (.lit (0)) 0) (.lit (3)))
   (.node (.ltI (.wrap .u16 (.cell 1000000 (.lit (0)) 6)) (.wrap .u16 (.cell 1000000 (.lit (0)) 7)))
   (.node (.eqI (.bin .rem (.bin .quo (.wrap .u8 (.cell 1000000 (.lit (0)) 1)) (.lit (4))) (.lit (4))) (.lit (0)))
   .leaf
   .leaf)
   .leaf)
   .leaf))))]
theorem bpduBytes_tree : splitOk Try.checked.prog [31, 32] bpduBytesTree = true := by kernel_rfl
theorem bpduBytes_all : allLeaves bpduBytesTree = [bpduBytesL0, bpduBytesL1, bpduBytesL2, bpduBytesL3, bpduBytesL4, bpduBytesL5, bpduBytesL6, bpduBytesL7, bpduBytesL8, bpduBytesL9, bpduBytesL10, bpduBytesL11, bpduBytesL12, bpduBytesL13, bpduBytesL14, bpduBytesL15, bpduBytesL16, bpduBytesL17, bpduBytesL18, bpduBytesL19] := by kernel_rfl
set_option maxRecDepth 100000 in
theorem bpduBytes_leaves : ∀ x ∈ allLeaves bpduBytesTree, LeafOk Try.checked.prog 3 [31, 32] x := by
  rw [bpduBytes_all]
  exact (List.forall_mem_cons.2 ⟨bpduBytes_ok0, (List.forall_mem_cons.2 ⟨bpduBytes_ok1, (List.forall_mem_cons.2 ⟨bpduBytes_ok2, (List.forall_mem_cons.2 ⟨bpduBytes_ok3, (List.forall_mem_cons.2 ⟨bpduBytes_ok4, (List.forall_mem_cons.2 ⟨bpduBytes_ok5, (List.forall_mem_cons.2 ⟨bpduBytes_ok6, (List.forall_mem_cons.2 ⟨bpduBytes_ok7, (List.forall_mem_cons.2 ⟨bpduBytes_ok8, (List.forall_mem_cons.2 ⟨bpduBytes_ok9, (List.forall_mem_cons.2 ⟨bpduBytes_ok10, (List.forall_mem_cons.2 ⟨bpduBytes_ok11, (List.forall_mem_cons.2 ⟨bpduBytes_ok12, (List.forall_mem_cons.2 ⟨bpduBytes_ok13, (List.forall_mem_cons.2 ⟨bpduBytes_ok14, (List.forall_mem_cons.2 ⟨bpduBytes_ok15, (List.forall_mem_cons.2 ⟨bpduBytes_ok16, (List.forall_mem_cons.2 ⟨bpduBytes_ok17, (List.forall_mem_cons.2 ⟨bpduBytes_ok18, (List.forall_mem_cons.2 ⟨bpduBytes_ok19, (fun _ h => by cases h)⟩)⟩)⟩)⟩)⟩)⟩)⟩)⟩)⟩)⟩)⟩)⟩)⟩)⟩)⟩)⟩)⟩)⟩)⟩)⟩)
theorem bpduBytes_fn (H : Type) : ∀ ds : List (DataW H), ds.length = 2 → Rows.bpduBytesSpec.fn H ds = { results := [.lit (.bool true)], args := ds }
  | [_, _], _ => rfl
set_option maxRecDepth 100000 in
theorem bpduBytes_lifted (os : Os) (started : os.Started) (H : Type) (enc : TypeId × Value → H) :
    ReturnsInHanded {} Try.checked os 3 .any (Rows.bpduBytesSpec.pre6 enc Try.prog Try.f3 Rows.bpduBytesRow.domain false) (Rows.bpduBytesSpec.post enc Try.prog Try.f3 false true false false) := by
  refine returnsInHanded_of_change (C := Try.checked) Try.own started (by kernel_rfl) Try.func3
    (ChangeSpec.witness6 (enc := enc) (C := Try.checked) false ⟨#[], #[zeroV Try.prog 31, zeroV Try.prog 32], []⟩ 8 (by kernel_rfl) (by kernel_rfl) (by kernel_rfl) (by kernel_rfl)) ?_
  intro W base args ds gs before hval hW _ _
  have hA := hW.choose_spec.choose_spec.1
  refine (law_split_any bpduBytes_tree bpduBytes_leaves (us := Try.f3.params.toList) rfl (fun j t v h1 h2 => hval j t v (by rw [Array.getElem?_toList] at h1; exact h1) h2) hA).mono fun e W' ⟨he, hb⟩ => ?_
  exact ⟨_, he, law_post rfl rfl (by kernel_rfl) Try.laidOut (by kernel_rfl) (bpduBytes_fn H ds (trodAll_len hA)) hW hb⟩
set_option maxRecDepth 100000 in
theorem bpduBytes_holds : Rows.BpduBytesSaid :=
  OpenClaim.holds_of_wide 3 Try.f3 rfl rfl rfl rfl rfl rfl rfl ⟨rfl, rfl, rfl, rfl, rfl⟩ rfl rfl rfl rfl rfl (by kernel_rfl) Try.func3 (by kernel_rfl)
    (of_decide_eq_true (by kernel_rfl)) (by unfold Func.isWrapper; first | (rw [if_pos (by decide +kernel)]; kernel_rfl) | (rw [if_neg (by decide +kernel)]; exact ⟨rfl, rfl⟩))
    (fun os started H enc _ => bpduBytes_lifted os started H enc)
end Go.Proofs.Ytemmnagphjaigaa
