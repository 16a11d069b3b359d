/-
  Of any bridge, whatever its ports know, the law TransmitSteps returns true: the machine that sends does next, and sends, what the document says. Conditions: none.
-/
import Derived.Test.YthdecegmnleljaaTransmitSteps1
import Derived.Test.YthdecegmnleljaaTransmitSteps2
import Derived.Test.YthdecegmnleljaaTransmitSteps3
import Derived.Test.YthdecegmnleljaaTransmitSteps4
namespace Go.Proofs.Ythdecegmnleljaa
open Go.SX
def transmitStepsTree : List (List Bool × Sp) :=
  [([true], (.node (.ltI (.lit (20)) (.var 0))
   .leaf
   (.node (.eqI (.var 0) (.lit (0)))
   .leaf
   (.node (.ltI (.cell 1000000 (.lit (0)) 18) (.var 0))
   (.node (.ltI (.cell 1000000 (.lit (0)) 18) (.lit (0)))
   .leaf
   (.node (qB 39)
   (.node (qB 43)
   .leaf
   (.node (qB 2)
   (.node (.eqI (qT 85) (.lit (0)))
   (.node (.eqI (qT 8) (.lit (0)))
   (.node (.eqI (qT 62) (.lit (0)))
   (.node (qB 24)
   (.node (.ltI (qT 14) (.cell 1000000 (.lit (0)) 5))
   (.node (qB 40)
   .leaf
   (.node (.eqI (qT 46) (.lit (2)))
   .leaf
   (.node (.eqI (qT 46) (.lit (1)))
   .leaf
   .leaf)))
   .leaf)
   .leaf)
   .leaf)
   (.node (qB 24)
   (.node (.ltI (qT 14) (.cell 1000000 (.lit (0)) 5))
   (.node (qB 40)
   .leaf
   (.node (.eqI (qT 46) (.lit (2)))
   .leaf
   (.node (.eqI (qT 46) (.lit (1)))
   .leaf
   .leaf)))
   .leaf)
   .leaf))
   .leaf)
   .leaf))
   .leaf))
   .leaf)))),
  ([false], .leaf)]
theorem transmitSteps_tree : splitOk Try.checked.prog [34, 3] transmitStepsTree = true := by kernel_rfl
theorem transmitSteps_all : allLeaves transmitStepsTree = [transmitStepsL0, transmitStepsL1, transmitStepsL2, transmitStepsL3, transmitStepsL4, transmitStepsL5, transmitStepsL6, transmitStepsL7, transmitStepsL8, transmitStepsL9, transmitStepsL10, transmitStepsL11, transmitStepsL12, transmitStepsL13, transmitStepsL14, transmitStepsL15, transmitStepsL16, transmitStepsL17, transmitStepsL18, transmitStepsL19, transmitStepsL20, transmitStepsL21] := by kernel_rfl
theorem transmitSteps_leaves : ∀ x ∈ allLeaves transmitStepsTree, LeafOk Try.checked.prog 10 [34, 3] x := by
  rw [transmitSteps_all]
  exact (List.forall_mem_cons.2 ⟨transmitSteps_ok0, (List.forall_mem_cons.2 ⟨transmitSteps_ok1, (List.forall_mem_cons.2 ⟨transmitSteps_ok2, (List.forall_mem_cons.2 ⟨transmitSteps_ok3, (List.forall_mem_cons.2 ⟨transmitSteps_ok4, (List.forall_mem_cons.2 ⟨transmitSteps_ok5, (List.forall_mem_cons.2 ⟨transmitSteps_ok6, (List.forall_mem_cons.2 ⟨transmitSteps_ok7, (List.forall_mem_cons.2 ⟨transmitSteps_ok8, (List.forall_mem_cons.2 ⟨transmitSteps_ok9, (List.forall_mem_cons.2 ⟨transmitSteps_ok10, (List.forall_mem_cons.2 ⟨transmitSteps_ok11, (List.forall_mem_cons.2 ⟨transmitSteps_ok12, (List.forall_mem_cons.2 ⟨transmitSteps_ok13, (List.forall_mem_cons.2 ⟨transmitSteps_ok14, (List.forall_mem_cons.2 ⟨transmitSteps_ok15, (List.forall_mem_cons.2 ⟨transmitSteps_ok16, (List.forall_mem_cons.2 ⟨transmitSteps_ok17, (List.forall_mem_cons.2 ⟨transmitSteps_ok18, (List.forall_mem_cons.2 ⟨transmitSteps_ok19, (List.forall_mem_cons.2 ⟨transmitSteps_ok20, (List.forall_mem_cons.2 ⟨transmitSteps_ok21, (fun _ h => by cases h)⟩)⟩)⟩)⟩)⟩)⟩)⟩)⟩)⟩)⟩)⟩)⟩)⟩)⟩)⟩)⟩)⟩)⟩)⟩)⟩)⟩)⟩)
theorem transmitSteps_fn (H : Type) : ∀ ds : List (DataW H), ds.length = 2 → Rows.transmitStepsSpec.fn H ds = { results := [.lit (.bool true)], args := ds }
  | [_, _], _ => rfl
set_option maxRecDepth 100000 in
theorem transmitSteps_lifted (os : Os) (started : os.Started) (H : Type) (enc : TypeId × Value → H) :
    ReturnsInHanded {} Try.checked os 10 .any (Rows.transmitStepsSpec.pre6 enc Try.prog Try.f10 Rows.transmitStepsRow.domain false) (Rows.transmitStepsSpec.post enc Try.prog Try.f10 false true false false) := by
  refine returnsInHanded_of_change (C := Try.checked) Try.own started (by kernel_rfl) Try.func10
    (ChangeSpec.witness6 (enc := enc) (C := Try.checked) false ⟨#[], #[zeroV Try.prog 34, zeroV Try.prog 3], []⟩ 8 (by kernel_rfl) (by kernel_rfl) (by kernel_rfl) (by kernel_rfl)) ?_
  intro W base args ds gs before hval hW _ _
  have hA := hW.choose_spec.choose_spec.1
  refine (law_split_any transmitSteps_tree transmitSteps_leaves (us := Try.f10.params.toList) rfl (fun j t v h1 h2 => hval j t v (by rw [Array.getElem?_toList] at h1; exact h1) h2) hA).mono fun e W' ⟨he, hb⟩ => ?_
  exact ⟨_, he, law_post rfl rfl (by kernel_rfl) Try.laidOut (by kernel_rfl) (transmitSteps_fn H ds (trodAll_len hA)) hW hb⟩
set_option maxRecDepth 100000 in
theorem transmitSteps_holds : Rows.TransmitStepsSaid :=
  OpenClaim.holds_of_wide 10 Try.f10 rfl rfl rfl rfl rfl rfl rfl ⟨rfl, rfl, rfl, rfl, rfl⟩ rfl rfl rfl rfl rfl (by kernel_rfl) Try.func10 (by kernel_rfl)
    (of_decide_eq_true (by kernel_rfl)) (by unfold Func.isWrapper; first | (rw [if_pos (by decide +kernel)]; kernel_rfl) | (rw [if_neg (by decide +kernel)]; exact ⟨rfl, rfl⟩))
    (fun os started H enc _ => transmitSteps_lifted os started H enc)
end Go.Proofs.Ythdecegmnleljaa
