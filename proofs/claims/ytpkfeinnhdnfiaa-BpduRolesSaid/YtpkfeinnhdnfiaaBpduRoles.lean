/-
  The law BpduRoles (of any flags the role; with any role in its place, the others stay) returns true for every input, and its arguments read as they did. Conditions: none.
-/
import Derived.Test.YtpkfeinnhdnfiaaBpduRoles1
namespace Go.Proofs.Ytpkfeinnhdnfiaa
open Go.SX
def bpduRolesTree : List (List Bool × Sp) :=
  [([], .leaf)]
theorem bpduRoles_tree : splitOk cfg [5, 59] bpduRolesTree = true := by kernel_rfl
theorem bpduRoles_all : allLeaves bpduRolesTree = bpduRolesC1 := by kernel_rfl
theorem bpduRoles_leaves : ∀ x ∈ allLeaves bpduRolesTree, leafGood cfg 3000 9 [5, 59] x = true := by
  intro x hx
  rw [bpduRoles_all] at hx
  rcases hx with hx
  · exact bpduRoles_part1 x hx
theorem bpduRoles_fn (H : Type) : ∀ ds : List (DataW H), ds.length = 2 → Rows.bpduRolesSpec.fn H ds = { results := [.lit (.bool true)], args := ds }
  | [_, _], _ => rfl
set_option maxRecDepth 100000 in
theorem bpduRoles_lifted (os : Os) (started : os.Started) (H : Type) (enc : TypeId × Value → H) :
    ReturnsInHanded {} Try.checked os 9 .any (Rows.bpduRolesSpec.pre6 enc Try.prog Try.f9 Rows.bpduRolesRow.domain false) (Rows.bpduRolesSpec.post enc Try.prog Try.f9 false true false false) := by
  refine returnsInHanded_of_change (C := Try.checked) Try.own started (by kernel_rfl) Try.func9
    (ChangeSpec.witness6 (enc := enc) (C := Try.checked) false ⟨#[], #[zeroV Try.prog 5, zeroV Try.prog 59], []⟩ 8 (by kernel_rfl) (by kernel_rfl) (by kernel_rfl) (by kernel_rfl)) ?_
  intro W base args ds gs before hval hW _ _
  have hA := hW.choose_spec.choose_spec.1
  refine (law_split_of cfg_prog cfg_types cfg_hooks bpduRoles_tree bpduRoles_leaves (us := Try.f9.params.toList) rfl (fun j t v h1 h2 => hval j t v (by rw [Array.getElem?_toList] at h1; exact h1) h2) hA).mono fun e W' ⟨he, hb⟩ => ?_
  exact ⟨_, he, law_post rfl rfl (by kernel_rfl) Try.laidOut (by kernel_rfl) (bpduRoles_fn H ds (trodAll_len hA)) hW hb⟩
set_option maxRecDepth 100000 in
theorem bpduRoles_holds : Rows.BpduRolesSaid :=
  OpenClaim.holds_of_wide 9 Try.f9 rfl rfl rfl rfl rfl rfl rfl ⟨rfl, rfl, rfl, rfl, rfl⟩ rfl rfl rfl rfl rfl (by kernel_rfl) Try.func9 (by kernel_rfl)
    (of_decide_eq_true (by kernel_rfl)) (by unfold Func.isWrapper; first | (rw [if_pos (by decide +kernel)]; kernel_rfl) | (rw [if_neg (by decide +kernel)]; exact ⟨rfl, rfl⟩))
    (fun os started H enc _ => bpduRoles_lifted os started H enc)
end Go.Proofs.Ytpkfeinnhdnfiaa
