/-
  Of any bridge, and any number of a port: PortAlls returns true; whether all its ports are synced, whether no other one was the root lately, and what is done to all ports, is as the document says. Conditions: none.
-/
import Derived.Test.YthdecegmnleljaaPortAlls1
import Derived.Test.YthdecegmnleljaaPortAlls2
import Derived.Test.YthdecegmnleljaaPortAlls3
import Derived.Test.YthdecegmnleljaaPortAlls4
import Derived.Test.YthdecegmnleljaaPortAlls5
import Derived.Test.YthdecegmnleljaaPortAlls6
namespace Go.Proofs.Ythdecegmnleljaa
open Go.SX
def portAllsTree : List (List Bool × Sp) :=
  [([true], (.node (.ltI (.lit (20)) (.var 0))
   .leaf
   (.node (.eqI (.var 0) (.lit (0)))
   .leaf
   (.node (.ltI (.cell 1000000 (.lit (0)) 18) (.lit (0)))
   .leaf
   (.node (.ltI (.cell 1000000 (.lit (0)) 18) (.var 0))
   .leaf
   .leaf))))),
  ([false], .leaf)]
theorem portAlls_tree : splitOk cfg [34, 3] portAllsTree = true := by kernel_rfl
theorem portAlls_all : allLeaves portAllsTree = portAllsC1 ++ (portAllsC2 ++ (portAllsC3 ++ (portAllsC4 ++ (portAllsC5 ++ (portAllsC6))))) := by kernel_rfl
theorem portAlls_leaves : ∀ x ∈ allLeaves portAllsTree, leafGood cfg 3000 8 [34, 3] x = true := by
  intro x hx
  rw [portAlls_all] at hx
  simp only [List.mem_append] at hx
  rcases hx with hx | hx | hx | hx | hx | hx
  · exact portAlls_part1 x hx
  · exact portAlls_part2 x hx
  · exact portAlls_part3 x hx
  · exact portAlls_part4 x hx
  · exact portAlls_part5 x hx
  · exact portAlls_part6 x hx
theorem portAlls_fn (H : Type) : ∀ ds : List (DataW H), ds.length = 2 → Rows.portAllsSpec.fn H ds = { results := [.lit (.bool true)], args := ds }
  | [_, _], _ => rfl
set_option maxRecDepth 100000 in
theorem portAlls_lifted (os : Os) (started : os.Started) (H : Type) (enc : TypeId × Value → H) :
    ReturnsInHanded {} Try.checked os 8 .any (Rows.portAllsSpec.pre6 enc Try.prog Try.f8 Rows.portAllsRow.domain false) (Rows.portAllsSpec.post enc Try.prog Try.f8 false true false false) := by
  refine returnsInHanded_of_change (C := Try.checked) Try.own started (by kernel_rfl) Try.func8
    (ChangeSpec.witness6 (enc := enc) (C := Try.checked) false ⟨#[], #[zeroV Try.prog 34, zeroV Try.prog 3], []⟩ 8 (by kernel_rfl) (by kernel_rfl) (by kernel_rfl) (by kernel_rfl)) ?_
  intro W base args ds gs before hval hW _ _
  have hA := hW.choose_spec.choose_spec.1
  refine (law_split_of cfg_prog cfg_types cfg_hooks portAlls_tree portAlls_leaves (us := Try.f8.params.toList) rfl (fun j t v h1 h2 => hval j t v (by rw [Array.getElem?_toList] at h1; exact h1) h2) hA).mono fun e W' ⟨he, hb⟩ => ?_
  exact ⟨_, he, law_post rfl rfl (by kernel_rfl) Try.laidOut (by kernel_rfl) (portAlls_fn H ds (trodAll_len hA)) hW hb⟩
set_option maxRecDepth 100000 in
theorem portAlls_holds : Rows.PortAllsSaid :=
  OpenClaim.holds_of_wide 8 Try.f8 rfl rfl rfl rfl rfl rfl rfl ⟨rfl, rfl, rfl, rfl, rfl⟩ rfl rfl rfl rfl rfl (by kernel_rfl) Try.func8 (by kernel_rfl)
    (of_decide_eq_true (by kernel_rfl)) (by unfold Func.isWrapper; first | (rw [if_pos (by decide +kernel)]; kernel_rfl) | (rw [if_neg (by decide +kernel)]; exact ⟨rfl, rfl⟩))
    (fun os started H enc _ => portAlls_lifted os started H enc)
end Go.Proofs.Ythdecegmnleljaa
