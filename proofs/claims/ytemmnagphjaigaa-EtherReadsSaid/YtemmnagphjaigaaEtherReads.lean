/-
  The law EtherReads returns true for every input, and its arguments read as they did. Conditions: none.
-/
import Derived.Test.YtemmnagphjaigaaEtherReads1
import Derived.Test.YtemmnagphjaigaaEtherReads2
import Derived.Test.YtemmnagphjaigaaEtherReads3
import Derived.Test.YtemmnagphjaigaaEtherReads4
import Derived.Test.YtemmnagphjaigaaEtherReads5
import Derived.Test.YtemmnagphjaigaaEtherReads6
namespace Go.Proofs.Ytemmnagphjaigaa
open Go.SX
def etherReadsTree : List (List Bool × Sp) :=
  [([true], (.node (.ltI (.lit (2000)) (.var 0))
   .leaf
   (.node (.eqI (.var 0) (.lit (0)))
   .leaf
   (.node (.ltI (.var 0) (.lit (60)))
   .leaf
   (.node (.ltI (.lit (1514)) (.var 0))
   .leaf
   (.node (.eqI (.bin .rem (.wrap .u8 (.cell 0 (.lit (6)) 0)) (.lit (2))) (.lit (1)))
   .leaf
   (.node (.ltI (.wrap .u8 (.cell 0 (.lit (12)) 0)) (.lit (6)))
   (.node (.eqI (.wrap .u8 (.cell 0 (.lit (12)) 0)) (.lit (0)))
   (.node (.eqI (.wrap .u8 (.cell 0 (.lit (13)) 0)) (.lit (0)))
   .leaf
   (.node (.ltI (.var 0) (.bin .add (.wrap .u8 (.cell 0 (.lit (13)) 0)) (.lit (14))))
   .leaf
   (.node (.ltI (.wrap .u8 (.cell 0 (.lit (13)) 0)) (.lit (3)))
   .leaf
   (.node (.ltI (.wrap .u8 (.cell 0 (.lit (13)) 0)) (.lit (4)))
   .leaf
   .leaf))))
   (.node (.eqI (.wrap .u8 (.cell 0 (.lit (12)) 0)) (.lit (5)))
   (.node (.ltI (.wrap .u8 (.cell 0 (.lit (13)) 0)) (.lit (221)))
   (.node (.ltI (.var 0) (.bin .add (.wrap .u8 (.cell 0 (.lit (13)) 0)) (.lit (1294))))
   .leaf
   .leaf)
   .leaf)
   (.node (.ltI (.var 0) (.bin .add (.bin .add (.bin .mul (.wrap .u8 (.cell 0 (.lit (12)) 0)) (.lit (256))) (.wrap .u8 (.cell 0 (.lit (13)) 0))) (.lit (14))))
   .leaf
   .leaf)))
   .leaf))))))),
  ([false], .leaf)]
theorem etherReads_tree : splitOk Try.checked.prog [32] etherReadsTree = true := by kernel_rfl
theorem etherReads_all : allLeaves etherReadsTree = [etherReadsL0, etherReadsL1, etherReadsL2, etherReadsL3, etherReadsL4, etherReadsL5, etherReadsL6, etherReadsL7, etherReadsL8, etherReadsL9, etherReadsL10, etherReadsL11, etherReadsL12, etherReadsL13, etherReadsL14, etherReadsL15, etherReadsL16] := by kernel_rfl
set_option maxRecDepth 100000 in
theorem etherReads_leaves : ∀ x ∈ allLeaves etherReadsTree, LeafOk Try.checked.prog 5 [32] x := by
  rw [etherReads_all]
  exact (List.forall_mem_cons.2 ⟨etherReads_ok0, (List.forall_mem_cons.2 ⟨etherReads_ok1, (List.forall_mem_cons.2 ⟨etherReads_ok2, (List.forall_mem_cons.2 ⟨etherReads_ok3, (List.forall_mem_cons.2 ⟨etherReads_ok4, (List.forall_mem_cons.2 ⟨etherReads_ok5, (List.forall_mem_cons.2 ⟨etherReads_ok6, (List.forall_mem_cons.2 ⟨etherReads_ok7, (List.forall_mem_cons.2 ⟨etherReads_ok8, (List.forall_mem_cons.2 ⟨etherReads_ok9, (List.forall_mem_cons.2 ⟨etherReads_ok10, (List.forall_mem_cons.2 ⟨etherReads_ok11, (List.forall_mem_cons.2 ⟨etherReads_ok12, (List.forall_mem_cons.2 ⟨etherReads_ok13, (List.forall_mem_cons.2 ⟨etherReads_ok14, (List.forall_mem_cons.2 ⟨etherReads_ok15, (List.forall_mem_cons.2 ⟨etherReads_ok16, (fun _ h => by cases h)⟩)⟩)⟩)⟩)⟩)⟩)⟩)⟩)⟩)⟩)⟩)⟩)⟩)⟩)⟩)⟩)⟩)
theorem etherReads_fn (H : Type) : ∀ ds : List (DataW H), ds.length = 1 → Rows.etherReadsSpec.fn H ds = { results := [.lit (.bool true)], args := ds }
  | [_], _ => rfl
set_option maxRecDepth 100000 in
theorem etherReads_lifted (os : Os) (started : os.Started) (H : Type) (enc : TypeId × Value → H) :
    ReturnsInHanded {} Try.checked os 5 .any (Rows.etherReadsSpec.pre6 enc Try.prog Try.f5 Rows.etherReadsRow.domain false) (Rows.etherReadsSpec.post enc Try.prog Try.f5 false true false false) := by
  refine returnsInHanded_of_change (C := Try.checked) Try.own started (by kernel_rfl) Try.func5
    (ChangeSpec.witness6 (enc := enc) (C := Try.checked) false ⟨#[], #[zeroV Try.prog 32], []⟩ 8 (by kernel_rfl) (by kernel_rfl) (by kernel_rfl) (by kernel_rfl)) ?_
  intro W base args ds gs before hval hW _ _
  have hA := hW.choose_spec.choose_spec.1
  refine (law_split_any etherReads_tree etherReads_leaves (us := Try.f5.params.toList) rfl (fun j t v h1 h2 => hval j t v (by rw [Array.getElem?_toList] at h1; exact h1) h2) hA).mono fun e W' ⟨he, hb⟩ => ?_
  exact ⟨_, he, law_post rfl rfl (by kernel_rfl) Try.laidOut (by kernel_rfl) (etherReads_fn H ds (trodAll_len hA)) hW hb⟩
set_option maxRecDepth 100000 in
theorem etherReads_holds : Rows.EtherReadsSaid :=
  OpenClaim.holds_of_wide 5 Try.f5 rfl rfl rfl rfl rfl rfl rfl ⟨rfl, rfl, rfl, rfl, rfl⟩ rfl rfl rfl rfl rfl (by kernel_rfl) Try.func5 (by kernel_rfl)
    (of_decide_eq_true (by kernel_rfl)) (by unfold Func.isWrapper; first | (rw [if_pos (by decide +kernel)]; kernel_rfl) | (rw [if_neg (by decide +kernel)]; exact ⟨rfl, rfl⟩))
    (fun os started H enc _ => etherReads_lifted os started H enc)
end Go.Proofs.Ytemmnagphjaigaa
