/-
  The law EtherSpanning returns true for every input, and its arguments read as they did. Conditions: none.
-/
import Derived.Test.YtemmnagphjaigaaEtherSpanning1
import Derived.Test.YtemmnagphjaigaaEtherSpanning2
import Derived.Test.YtemmnagphjaigaaEtherSpanning3
namespace Go.Proofs.Ytemmnagphjaigaa
open Go.SX
def etherSpanningTree : List (List Bool × Sp) :=
  [([true, true], (.node (.ltI (.lit (9223372036854775807)) (.var 1))
   .leaf
   (.node (.ltI (.var 1) (.lit (0)))
   .leaf
   (.node (.ltI (.lit (2000)) (.var 0))
   .leaf
   (.node (.ltI (.lit (2000)) (.var 1))
   .leaf
   (.node (.eqI (.var 0) (.lit (0)))
   .leaf
   .leaf)))))),
  ([false, true], .leaf),
  ([true, false], .leaf),
  ([false, false], .leaf)]
theorem etherSpanning_tree : splitOk Try.checked.prog [43, 32, 45] etherSpanningTree = true := by kernel_rfl
theorem etherSpanning_all : allLeaves etherSpanningTree = [etherSpanningL0, etherSpanningL1, etherSpanningL2, etherSpanningL3, etherSpanningL4, etherSpanningL5, etherSpanningL6, etherSpanningL7, etherSpanningL8] := by kernel_rfl
set_option maxRecDepth 100000 in
theorem etherSpanning_leaves : ∀ x ∈ allLeaves etherSpanningTree, LeafOk Try.checked.prog 4 [43, 32, 45] x := by
  rw [etherSpanning_all]
  exact (List.forall_mem_cons.2 ⟨etherSpanning_ok0, (List.forall_mem_cons.2 ⟨etherSpanning_ok1, (List.forall_mem_cons.2 ⟨etherSpanning_ok2, (List.forall_mem_cons.2 ⟨etherSpanning_ok3, (List.forall_mem_cons.2 ⟨etherSpanning_ok4, (List.forall_mem_cons.2 ⟨etherSpanning_ok5, (List.forall_mem_cons.2 ⟨etherSpanning_ok6, (List.forall_mem_cons.2 ⟨etherSpanning_ok7, (List.forall_mem_cons.2 ⟨etherSpanning_ok8, (fun _ h => by cases h)⟩)⟩)⟩)⟩)⟩)⟩)⟩)⟩)⟩)
theorem etherSpanning_fn (H : Type) : ∀ ds : List (DataW H), ds.length = 3 → Rows.etherSpanningSpec.fn H ds = { results := [.lit (.bool true)], args := ds }
  | [_, _, _], _ => rfl
set_option maxRecDepth 100000 in
theorem etherSpanning_lifted (os : Os) (started : os.Started) (H : Type) (enc : TypeId × Value → H) :
    ReturnsInHanded {} Try.checked os 4 .any (Rows.etherSpanningSpec.pre6 enc Try.prog Try.f4 Rows.etherSpanningRow.domain false) (Rows.etherSpanningSpec.post enc Try.prog Try.f4 false true false false) := by
  refine returnsInHanded_of_change (C := Try.checked) Try.own started (by kernel_rfl) Try.func4
    (ChangeSpec.witness6 (enc := enc) (C := Try.checked) false ⟨#[], #[zeroV Try.prog 43, zeroV Try.prog 32, zeroV Try.prog 45], []⟩ 8 (by kernel_rfl) (by kernel_rfl) (by kernel_rfl) (by kernel_rfl)) ?_
  intro W base args ds gs before hval hW _ _
  have hA := hW.choose_spec.choose_spec.1
  refine (law_split_any etherSpanning_tree etherSpanning_leaves (us := Try.f4.params.toList) rfl (fun j t v h1 h2 => hval j t v (by rw [Array.getElem?_toList] at h1; exact h1) h2) hA).mono fun e W' ⟨he, hb⟩ => ?_
  exact ⟨_, he, law_post rfl rfl (by kernel_rfl) Try.laidOut (by kernel_rfl) (etherSpanning_fn H ds (trodAll_len hA)) hW hb⟩
set_option maxRecDepth 100000 in
theorem etherSpanning_holds : Rows.EtherSpanningSaid :=
  OpenClaim.holds_of_wide 4 Try.f4 rfl rfl rfl rfl rfl rfl rfl ⟨rfl, rfl, rfl, rfl, rfl⟩ rfl rfl rfl rfl rfl (by kernel_rfl) Try.func4 (by kernel_rfl)
    (of_decide_eq_true (by kernel_rfl)) (by unfold Func.isWrapper; first | (rw [if_pos (by decide +kernel)]; kernel_rfl) | (rw [if_neg (by decide +kernel)]; exact ⟨rfl, rfl⟩))
    (fun os started H enc _ => etherSpanning_lifted os started H enc)
end Go.Proofs.Ytemmnagphjaigaa
