/-
  Any bridge and port number: InfoStarts returns true; a port's machine of what is known begins as the document says. Conditions: none.
-/
import Derived.Test.YtllkjhnmjhpbnaaInfoStarts1
import Derived.Test.YtllkjhnmjhpbnaaInfoStarts2
import Derived.Test.YtllkjhnmjhpbnaaInfoStarts3
import Derived.Test.YtllkjhnmjhpbnaaInfoStarts4
namespace Go.Proofs.Ytllkjhnmjhpbnaa
open Go.SX
def infoStartsTree : List (List Bool × Sp) :=
  [([true], (.node (.ltI (.cell 1000000 (.lit (0)) 18) (.lit (0)))
   (.node (.eqI (.var 0) (.lit (0)))
   .leaf
   .leaf)
   (.node (.eqI (.var 0) (.lit (0)))
   .leaf
   (.node (.ltI (.cell 1000000 (.lit (0)) 18) (.var 0))
   .leaf
   .leaf)))),
  ([false], (.node (.ltI (.cell 1000000 (.lit (0)) 18) (.lit (0)))
   .leaf
   .leaf))]
theorem infoStarts_tree : splitOk cfg [34, 3] infoStartsTree = true := by kernel_rfl
theorem infoStarts_all : allLeaves infoStartsTree = infoStartsC1 ++ (infoStartsC2 ++ (infoStartsC3 ++ (infoStartsC4))) := by kernel_rfl
theorem infoStarts_leaves : ∀ x ∈ allLeaves infoStartsTree, leafGood cfg 3000 11 [34, 3] x = true := by
  intro x hx
  rw [infoStarts_all] at hx
  simp only [List.mem_append] at hx
  rcases hx with hx | hx | hx | hx
  · exact List.all_eq_true.1 infoStarts_part1 x hx
  · exact List.all_eq_true.1 infoStarts_part2 x hx
  · exact List.all_eq_true.1 infoStarts_part3 x hx
  · exact List.all_eq_true.1 infoStarts_part4 x hx
theorem infoStarts_fn (H : Type) : ∀ ds : List (DataW H), ds.length = 2 → Rows.infoStartsSpec.fn H ds = { results := [.lit (.bool true)], args := ds }
  | [_, _], _ => rfl
set_option maxRecDepth 100000 in
theorem infoStarts_lifted (os : Os) (started : os.Started) (H : Type) (enc : TypeId × Value → H) :
    ReturnsInHanded {} Try.checked os 11 .any (Rows.infoStartsSpec.pre6 enc Try.prog Try.f11 Rows.infoStartsRow.domain false) (Rows.infoStartsSpec.post enc Try.prog Try.f11 false true false false) := by
  refine returnsInHanded_of_change (C := Try.checked) Try.own started (by kernel_rfl) Try.func11
    (ChangeSpec.witness6 (enc := enc) (C := Try.checked) false ⟨#[], #[zeroV Try.prog 34, zeroV Try.prog 3], []⟩ 8 (by kernel_rfl) (by kernel_rfl) (by kernel_rfl) (by kernel_rfl)) ?_
  intro W base args ds gs before hval hW _ _
  have hA := hW.choose_spec.choose_spec.1
  refine (law_split_of cfg_prog cfg_types cfg_hooks infoStarts_tree infoStarts_leaves (us := Try.f11.params.toList) rfl (fun j t v h1 h2 => hval j t v (by rw [Array.getElem?_toList] at h1; exact h1) h2) hA).mono fun e W' ⟨he, hb⟩ => ?_
  exact ⟨_, he, law_post rfl rfl (by kernel_rfl) Try.laidOut (by kernel_rfl) (infoStarts_fn H ds (trodAll_len hA)) hW hb⟩
set_option maxRecDepth 100000 in
theorem infoStarts_holds : Rows.InfoStartsSaid :=
  OpenClaim.holds_of_wide 11 Try.f11 rfl rfl rfl rfl rfl rfl rfl ⟨rfl, rfl, rfl, rfl, rfl⟩ rfl rfl rfl rfl rfl (by kernel_rfl) Try.func11 (by kernel_rfl)
    (of_decide_eq_true (by kernel_rfl)) (by unfold Func.isWrapper; first | (rw [if_pos (by decide +kernel)]; kernel_rfl) | (rw [if_neg (by decide +kernel)]; exact ⟨rfl, rfl⟩))
    (fun os started H enc _ => infoStarts_lifted os started H enc)
end Go.Proofs.Ytllkjhnmjhpbnaa
