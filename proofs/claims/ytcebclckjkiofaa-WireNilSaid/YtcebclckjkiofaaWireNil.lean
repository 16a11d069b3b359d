/-
  The law WireNil returns true for every input, and its arguments read as they did. Conditions: none.
-/
import Derived.Test.YtcebclckjkiofaaWireNil1
namespace Go.Proofs.Ytcebclckjkiofaa
open Go.SX
def wireNilTree : List (List Bool × Sp) :=
  [([], .leaf)]
theorem wireNil_tree : splitOk Try.checked.prog [50, 9] wireNilTree = true := by kernel_rfl
theorem wireNil_all : allLeaves wireNilTree = [wireNilL0] := by kernel_rfl
set_option maxRecDepth 100000 in
theorem wireNil_leaves : ∀ x ∈ allLeaves wireNilTree, LeafOk Try.checked.prog 6 [50, 9] x := by
  rw [wireNil_all]
  exact (List.forall_mem_cons.2 ⟨wireNil_ok0, (fun _ h => by cases h)⟩)
theorem wireNil_fn (H : Type) : ∀ ds : List (DataW H), ds.length = 2 → Rows.wireNilSpec.fn H ds = { results := [.lit (.bool true)], args := ds }
  | [_, _], _ => rfl
set_option maxRecDepth 100000 in
theorem wireNil_lifted (os : Os) (started : os.Started) (H : Type) (enc : TypeId × Value → H) :
    ReturnsInHanded {} Try.checked os 6 .any (Rows.wireNilSpec.pre6 enc Try.prog Try.f6 Rows.wireNilRow.domain false) (Rows.wireNilSpec.post enc Try.prog Try.f6 false true false false) := by
  refine returnsInHanded_of_change (C := Try.checked) Try.own started (by kernel_rfl) Try.func6
    (ChangeSpec.witness6 (enc := enc) (C := Try.checked) false ⟨#[], #[zeroV Try.prog 50, zeroV Try.prog 9], []⟩ 8 (by kernel_rfl) (by kernel_rfl) (by kernel_rfl) (by kernel_rfl)) ?_
  intro W base args ds gs before hval hW _ _
  have hA := hW.choose_spec.choose_spec.1
  refine (law_split_any wireNil_tree wireNil_leaves (us := Try.f6.params.toList) rfl (fun j t v h1 h2 => hval j t v (by rw [Array.getElem?_toList] at h1; exact h1) h2) hA).mono fun e W' ⟨he, hb⟩ => ?_
  exact ⟨_, he, law_post rfl rfl (by kernel_rfl) Try.laidOut (by kernel_rfl) (wireNil_fn H ds (trodAll_len hA)) hW hb⟩
set_option maxRecDepth 100000 in
theorem wireNil_holds : Rows.WireNilSaid :=
  OpenClaim.holds_of_wide 6 Try.f6 rfl rfl rfl rfl rfl rfl rfl ⟨rfl, rfl, rfl, rfl, rfl⟩ rfl rfl rfl rfl rfl (by kernel_rfl) Try.func6 (by kernel_rfl)
    (of_decide_eq_true (by kernel_rfl)) (by unfold Func.isWrapper; first | (rw [if_pos (by decide +kernel)]; kernel_rfl) | (rw [if_neg (by decide +kernel)]; exact ⟨rfl, rfl⟩))
    (fun os started H enc _ => wireNil_lifted os started H enc)
end Go.Proofs.Ytcebclckjkiofaa
