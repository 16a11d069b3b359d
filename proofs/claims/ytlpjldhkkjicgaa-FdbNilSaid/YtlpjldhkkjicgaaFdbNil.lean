/-
  The law FdbNil returns true for every input, and its arguments read as they did. Conditions: none.
-/
import Derived.Test.YtlpjldhkkjicgaaFdbNil1
namespace Go.Proofs.Ytlpjldhkkjicgaa
open Go.SX
def fdbNilTree : List (List Bool × Sp) :=
  [([], .leaf)]
theorem fdbNil_tree : splitOk Try.checked.prog [23, 3] fdbNilTree = true := by kernel_rfl
theorem fdbNil_all : allLeaves fdbNilTree = [fdbNilL0] := by kernel_rfl
set_option maxRecDepth 100000 in
theorem fdbNil_leaves : ∀ x ∈ allLeaves fdbNilTree, LeafOk Try.checked.prog 3 [23, 3] x := by
  rw [fdbNil_all]
  exact (List.forall_mem_cons.2 ⟨fdbNil_ok0, (fun _ h => by cases h)⟩)
theorem fdbNil_fn (H : Type) : ∀ ds : List (DataW H), ds.length = 2 → Rows.fdbNilSpec.fn H ds = { results := [.lit (.bool true)], args := ds }
  | [_, _], _ => rfl
set_option maxRecDepth 100000 in
theorem fdbNil_lifted (os : Os) (started : os.Started) (H : Type) (enc : TypeId × Value → H) :
    ReturnsInHanded {} Try.checked os 3 .any (Rows.fdbNilSpec.pre6 enc Try.prog Try.f3 Rows.fdbNilRow.domain false) (Rows.fdbNilSpec.post enc Try.prog Try.f3 false true false false) := by
  refine returnsInHanded_of_change (C := Try.checked) Try.own started (by kernel_rfl) Try.func3
    (ChangeSpec.witness6 (enc := enc) (C := Try.checked) false ⟨#[], #[zeroV Try.prog 23, zeroV Try.prog 3], []⟩ 8 (by kernel_rfl) (by kernel_rfl) (by kernel_rfl) (by kernel_rfl)) ?_
  intro W base args ds gs before hval hW _ _
  have hA := hW.choose_spec.choose_spec.1
  refine (law_split_any fdbNil_tree fdbNil_leaves (us := Try.f3.params.toList) rfl (fun j t v h1 h2 => hval j t v (by rw [Array.getElem?_toList] at h1; exact h1) h2) hA).mono fun e W' ⟨he, hb⟩ => ?_
  exact ⟨_, he, law_post rfl rfl (by kernel_rfl) Try.laidOut (by kernel_rfl) (fdbNil_fn H ds (trodAll_len hA)) hW hb⟩
set_option maxRecDepth 100000 in
theorem fdbNil_holds : Rows.FdbNilSaid :=
  OpenClaim.holds_of_wide 3 Try.f3 rfl rfl rfl rfl rfl rfl rfl ⟨rfl, rfl, rfl, rfl, rfl⟩ rfl rfl rfl rfl rfl (by kernel_rfl) Try.func3 (by kernel_rfl)
    (of_decide_eq_true (by kernel_rfl)) (by unfold Func.isWrapper; first | (rw [if_pos (by decide +kernel)]; kernel_rfl) | (rw [if_neg (by decide +kernel)]; exact ⟨rfl, rfl⟩))
    (fun os started H enc _ => fdbNil_lifted os started H enc)
end Go.Proofs.Ytlpjldhkkjicgaa
