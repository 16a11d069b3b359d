/-
  Any bridge and port number: StateChanges returns true; the machine of changes does what the document says. Conditions: none.
-/
import Derived.Test.YthdecegmnleljaaStateChanges1
import Derived.Test.YthdecegmnleljaaStateChanges2
import Derived.Test.YthdecegmnleljaaStateChanges3
import Derived.Test.YthdecegmnleljaaStateChanges4
import Derived.Test.YthdecegmnleljaaStateChanges5
import Derived.Test.YthdecegmnleljaaStateChanges6
import Derived.Test.YthdecegmnleljaaStateChanges7
import Derived.Test.YthdecegmnleljaaStateChanges8
import Derived.Test.YthdecegmnleljaaStateChanges9
import Derived.Test.YthdecegmnleljaaStateChanges10
import Derived.Test.YthdecegmnleljaaStateChanges11
import Derived.Test.YthdecegmnleljaaStateChanges12
import Derived.Test.YthdecegmnleljaaStateChanges13
import Derived.Test.YthdecegmnleljaaStateChanges14
namespace Go.Proofs.Ythdecegmnleljaa
open Go.SX
def stateChangesTree : List (List Bool × Sp) :=
  [([true], (.node (.eqI (.cell 0 (.cell 1000000 (.lit (0)) 18) 46) (.lit (1)))
   (.node (.eqI (.cell 0 (.cell 1000000 (.lit (0)) 18) 89) (.lit (1)))
   (.node (.cell 0 (.cell 1000000 (.lit (0)) 18) 34)
   .leaf
   .leaf)
   (.node (.cell 0 (.cell 1000000 (.lit (0)) 18) 36)
   (.node (.cell 0 (.cell 1000000 (.lit (0)) 18) 34)
   .leaf
   .leaf)
   (.node (.eqI (.cell 0 (.cell 1000000 (.lit (0)) 18) 89) (.lit (2)))
   .leaf
   .leaf)))
   (.node (.eqI (.cell 0 (.cell 1000000 (.lit (0)) 18) 89) (.lit (1)))
   (.node (.eqI (.cell 0 (.cell 1000000 (.lit (0)) 18) 46) (.lit (2)))
   (.node (.cell 0 (.cell 1000000 (.lit (0)) 18) 34)
   .leaf
   .leaf)
   .leaf)
   (.node (.cell 0 (.cell 1000000 (.lit (0)) 18) 36)
   (.node (.cell 0 (.cell 1000000 (.lit (0)) 18) 34)
   .leaf
   .leaf)
   (.node (.eqI (.cell 0 (.cell 1000000 (.lit (0)) 18) 89) (.lit (2)))
   .leaf
   .leaf))))),
  ([false], .leaf)]
theorem stateChanges_tree : splitOk cfg [34, 3] stateChangesTree = true := by kernel_rfl
theorem stateChanges_all : allLeaves stateChangesTree = stateChangesC1 ++ (stateChangesC2 ++ (stateChangesC3 ++ (stateChangesC4 ++ (stateChangesC5 ++ (stateChangesC6 ++ (stateChangesC7 ++ (stateChangesC8 ++ (stateChangesC9 ++ (stateChangesC10 ++ (stateChangesC11 ++ (stateChangesC12 ++ (stateChangesC13 ++ (stateChangesC14))))))))))))) := by kernel_rfl
theorem stateChanges_leaves : ∀ x ∈ allLeaves stateChangesTree, leafGood cfg 3000 14 [34, 3] x = true := by
  intro x hx
  rw [stateChanges_all] at hx
  simp only [List.mem_append] at hx
  rcases hx with hx | hx | hx | hx | hx | hx | hx | hx | hx | hx | hx | hx | hx | hx
  · exact List.all_eq_true.1 stateChanges_part1 x hx
  · exact List.all_eq_true.1 stateChanges_part2 x hx
  · exact List.all_eq_true.1 stateChanges_part3 x hx
  · exact List.all_eq_true.1 stateChanges_part4 x hx
  · exact List.all_eq_true.1 stateChanges_part5 x hx
  · exact List.all_eq_true.1 stateChanges_part6 x hx
  · exact List.all_eq_true.1 stateChanges_part7 x hx
  · exact List.all_eq_true.1 stateChanges_part8 x hx
  · exact List.all_eq_true.1 stateChanges_part9 x hx
  · exact List.all_eq_true.1 stateChanges_part10 x hx
  · exact List.all_eq_true.1 stateChanges_part11 x hx
  · exact List.all_eq_true.1 stateChanges_part12 x hx
  · exact List.all_eq_true.1 stateChanges_part13 x hx
  · exact List.all_eq_true.1 stateChanges_part14 x hx
theorem stateChanges_fn (H : Type) : ∀ ds : List (DataW H), ds.length = 2 → Rows.stateChangesSpec.fn H ds = { results := [.lit (.bool true)], args := ds }
  | [_, _], _ => rfl
set_option maxRecDepth 100000 in
theorem stateChanges_lifted (os : Os) (started : os.Started) (H : Type) (enc : TypeId × Value → H) :
    ReturnsInHanded {} Try.checked os 14 .any (Rows.stateChangesSpec.pre6 enc Try.prog Try.f14 Rows.stateChangesRow.domain false) (Rows.stateChangesSpec.post enc Try.prog Try.f14 false true false false) := by
  refine returnsInHanded_of_change (C := Try.checked) Try.own started (by kernel_rfl) Try.func14
    (ChangeSpec.witness6 (enc := enc) (C := Try.checked) false ⟨#[], #[zeroV Try.prog 34, zeroV Try.prog 3], []⟩ 8 (by kernel_rfl) (by kernel_rfl) (by kernel_rfl) (by kernel_rfl)) ?_
  intro W base args ds gs before hval hW _ _
  have hA := hW.choose_spec.choose_spec.1
  refine (law_split_of cfg_prog cfg_types cfg_hooks stateChanges_tree stateChanges_leaves (us := Try.f14.params.toList) rfl (fun j t v h1 h2 => hval j t v (by rw [Array.getElem?_toList] at h1; exact h1) h2) hA).mono fun e W' ⟨he, hb⟩ => ?_
  exact ⟨_, he, law_post rfl rfl (by kernel_rfl) Try.laidOut (by kernel_rfl) (stateChanges_fn H ds (trodAll_len hA)) hW hb⟩
set_option maxRecDepth 100000 in
theorem stateChanges_holds : Rows.StateChangesSaid :=
  OpenClaim.holds_of_wide 14 Try.f14 rfl rfl rfl rfl rfl rfl rfl ⟨rfl, rfl, rfl, rfl, rfl⟩ rfl rfl rfl rfl rfl (by kernel_rfl) Try.func14 (by kernel_rfl)
    (of_decide_eq_true (by kernel_rfl)) (by unfold Func.isWrapper; first | (rw [if_pos (by decide +kernel)]; kernel_rfl) | (rw [if_neg (by decide +kernel)]; exact ⟨rfl, rfl⟩))
    (fun os started H enc _ => stateChanges_lifted os started H enc)
end Go.Proofs.Ythdecegmnleljaa
