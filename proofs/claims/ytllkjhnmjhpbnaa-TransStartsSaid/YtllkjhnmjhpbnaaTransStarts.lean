/-
  Any bridge and port number: TransStarts returns true; a port's machine of roles begins as the document says. Conditions: none.
-/
import Derived.Test.YtllkjhnmjhpbnaaTransStarts1
namespace Go.Proofs.Ytllkjhnmjhpbnaa
open Go.SX
def transStartsTree : List (List Bool × Sp) :=
  [([true], .leaf),
  ([false], .leaf)]
theorem transStarts_tree : splitOk cfg [34, 3] transStartsTree = true := by kernel_rfl
theorem transStarts_all : allLeaves transStartsTree = transStartsC1 := by kernel_rfl
theorem transStarts_leaves : ∀ x ∈ allLeaves transStartsTree, leafGood cfg 3000 6 [34, 3] x = true := by
  intro x hx
  rw [transStarts_all] at hx
  rcases hx with hx
  · exact List.all_eq_true.1 transStarts_part1 x hx
theorem transStarts_fn (H : Type) : ∀ ds : List (DataW H), ds.length = 2 → Rows.transStartsSpec.fn H ds = { results := [.lit (.bool true)], args := ds }
  | [_, _], _ => rfl
set_option maxRecDepth 100000 in
theorem transStarts_lifted (os : Os) (started : os.Started) (H : Type) (enc : TypeId × Value → H) :
    ReturnsInHanded {} Try.checked os 6 .any (Rows.transStartsSpec.pre6 enc Try.prog Try.f6 Rows.transStartsRow.domain false) (Rows.transStartsSpec.post enc Try.prog Try.f6 false true false false) := by
  refine returnsInHanded_of_change (C := Try.checked) Try.own started (by kernel_rfl) Try.func6
    (ChangeSpec.witness6 (enc := enc) (C := Try.checked) false ⟨#[], #[zeroV Try.prog 34, zeroV Try.prog 3], []⟩ 8 (by kernel_rfl) (by kernel_rfl) (by kernel_rfl) (by kernel_rfl)) ?_
  intro W base args ds gs before hval hW _ _
  have hA := hW.choose_spec.choose_spec.1
  refine (law_split_of cfg_prog cfg_types cfg_hooks transStarts_tree transStarts_leaves (us := Try.f6.params.toList) rfl (fun j t v h1 h2 => hval j t v (by rw [Array.getElem?_toList] at h1; exact h1) h2) hA).mono fun e W' ⟨he, hb⟩ => ?_
  exact ⟨_, he, law_post rfl rfl (by kernel_rfl) Try.laidOut (by kernel_rfl) (transStarts_fn H ds (trodAll_len hA)) hW hb⟩
set_option maxRecDepth 100000 in
theorem transStarts_holds : Rows.TransStartsSaid :=
  OpenClaim.holds_of_wide 6 Try.f6 rfl rfl rfl rfl rfl rfl rfl ⟨rfl, rfl, rfl, rfl, rfl⟩ rfl rfl rfl rfl rfl (by kernel_rfl) Try.func6 (by kernel_rfl)
    (of_decide_eq_true (by kernel_rfl)) (by unfold Func.isWrapper; first | (rw [if_pos (by decide +kernel)]; kernel_rfl) | (rw [if_neg (by decide +kernel)]; exact ⟨rfl, rfl⟩))
    (fun os started H enc _ => transStarts_lifted os started H enc)
end Go.Proofs.Ytllkjhnmjhpbnaa
