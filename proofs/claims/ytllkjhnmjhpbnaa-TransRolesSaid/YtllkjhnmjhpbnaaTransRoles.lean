/-
  Of any bridge whose port has the role that it should, and is in that role's state: TransRoles returns true; its machine does next what the document says. Conditions: none.
-/
import Derived.Test.YtllkjhnmjhpbnaaTransRoles1
import Derived.Test.YtllkjhnmjhpbnaaTransRoles2
import Derived.Test.YtllkjhnmjhpbnaaTransRoles3
import Derived.Test.YtllkjhnmjhpbnaaTransRoles4
import Derived.Test.YtllkjhnmjhpbnaaTransRoles5
import Derived.Test.YtllkjhnmjhpbnaaTransRoles6
import Derived.Test.YtllkjhnmjhpbnaaTransRoles7
import Derived.Test.YtllkjhnmjhpbnaaTransRoles8
import Derived.Test.YtllkjhnmjhpbnaaTransRoles9
import Derived.Test.YtllkjhnmjhpbnaaTransRoles10
import Derived.Test.YtllkjhnmjhpbnaaTransRoles11
import Derived.Test.YtllkjhnmjhpbnaaTransRoles12
import Derived.Test.YtllkjhnmjhpbnaaTransRoles13
import Derived.Test.YtllkjhnmjhpbnaaTransRoles14
import Derived.Test.YtllkjhnmjhpbnaaTransRoles15
import Derived.Test.YtllkjhnmjhpbnaaTransRoles16
import Derived.Test.YtllkjhnmjhpbnaaTransRoles17
import Derived.Test.YtllkjhnmjhpbnaaTransRoles18
import Derived.Test.YtllkjhnmjhpbnaaTransRoles19
import Derived.Test.YtllkjhnmjhpbnaaTransRoles20
import Derived.Test.YtllkjhnmjhpbnaaTransRoles21
import Derived.Test.YtllkjhnmjhpbnaaTransRoles22
namespace Go.Proofs.Ytllkjhnmjhpbnaa
open Go.SX
def transRolesTree : List (List Bool × Sp) :=
  [([true], (.node (.ltI (.lit (20)) (.var 0))
   .leaf
   (.node (.ltI (.cell 1000000 (.lit (0)) 18) (.lit (0)))
   .leaf
   (.node (.ltI (.cell 1000000 (.lit (0)) 18) (.var 0))
   (.node (.eqI (.var 0) (.lit (0)))
   .leaf
   (.node (.eqI (.bin .rem (.wrap .u8 (.cell 1000000 (.lit (0)) 19)) (.lit (5))) (.lit (0)))
   .leaf
   (.node (.eqI (.bin .rem (.wrap .u8 (.cell 1000000 (.lit (0)) 19)) (.lit (5))) (.lit (1)))
   (.node (.cell 0 (.cell 1000000 (.lit (0)) 18) 26)
   .leaf
   (.node (.cell 0 (.cell 1000000 (.lit (0)) 18) 19)
   (.node (.cell 0 (.cell 1000000 (.lit (0)) 18) 21)
   .leaf
   (.node (.cell 0 (.cell 1000000 (.lit (0)) 18) 15)
   .leaf
   .leaf))
   (.node (.cell 0 (.cell 1000000 (.lit (0)) 18) 15)
   (.node (.cell 0 (.cell 1000000 (.lit (0)) 18) 21)
   (.node (.cell 0 (.cell 1000000 (.lit (0)) 18) 42)
   (.node (.cell 0 (.cell 1000000 (.lit (0)) 18) 28)
   .leaf
   .leaf)
   (.node (.cell 0 (.cell 1000000 (.lit (0)) 18) 28)
   .leaf
   .leaf))
   (.node (.cell 0 (.cell 1000000 (.lit (0)) 18) 42)
   (.node (.cell 0 (.cell 1000000 (.lit (0)) 18) 28)
   .leaf
   .leaf)
   (.node (.cell 0 (.cell 1000000 (.lit (0)) 18) 28)
   .leaf
   .leaf)))
   (.node (.cell 0 (.cell 1000000 (.lit (0)) 18) 21)
   (.node (.cell 0 (.cell 1000000 (.lit (0)) 18) 42)
   (.node (.cell 0 (.cell 1000000 (.lit (0)) 18) 28)
   .leaf
   .leaf)
   (.node (.cell 0 (.cell 1000000 (.lit (0)) 18) 28)
   .leaf
   .leaf))
   (.node (.cell 0 (.cell 1000000 (.lit (0)) 18) 42)
   (.node (.cell 0 (.cell 1000000 (.lit (0)) 18) 28)
   .leaf
   .leaf)
   (.node (.cell 0 (.cell 1000000 (.lit (0)) 18) 28)
   .leaf
   .leaf))))))
   (.node (.eqI (.bin .rem (.wrap .u8 (.cell 1000000 (.lit (0)) 19)) (.lit (5))) (.lit (2)))
   (.node (.cell 0 (.cell 1000000 (.lit (0)) 18) 42)
   (.node (.cell 0 (.cell 1000000 (.lit (0)) 18) 28)
   .leaf
   .leaf)
   (.node (.cell 0 (.cell 1000000 (.lit (0)) 18) 28)
   .leaf
   .leaf))
   (.node (.eqI (.bin .rem (.wrap .u8 (.cell 1000000 (.lit (0)) 19)) (.lit (5))) (.lit (3)))
   (.node (.cell 0 (.cell 1000000 (.lit (0)) 18) 26)
   .leaf
   (.node (.cell 0 (.cell 1000000 (.lit (0)) 18) 15)
   .leaf
   (.node (.cell 0 (.cell 1000000 (.lit (0)) 18) 42)
   (.node (.cell 0 (.cell 1000000 (.lit (0)) 18) 28)
   .leaf
   .leaf)
   .leaf)))
   (.node (.cell 0 (.cell 1000000 (.lit (0)) 18) 26)
   .leaf
   (.node (.cell 0 (.cell 1000000 (.lit (0)) 18) 15)
   .leaf
   (.node (.cell 0 (.cell 1000000 (.lit (0)) 18) 42)
   (.node (.cell 0 (.cell 1000000 (.lit (0)) 18) 28)
   .leaf
   .leaf)
   .leaf))))))))
   .leaf)))),
  ([false], .leaf)]
theorem transRoles_tree : splitOk cfg [34, 3, 5] transRolesTree = true := by kernel_rfl
theorem transRoles_all : allLeaves transRolesTree = transRolesC1 ++ (transRolesC2 ++ (transRolesC3 ++ (transRolesC4 ++ (transRolesC5 ++ (transRolesC6 ++ (transRolesC7 ++ (transRolesC8 ++ (transRolesC9 ++ (transRolesC10 ++ (transRolesC11 ++ (transRolesC12 ++ (transRolesC13 ++ (transRolesC14 ++ (transRolesC15 ++ (transRolesC16 ++ (transRolesC17 ++ (transRolesC18 ++ (transRolesC19 ++ (transRolesC20 ++ (transRolesC21 ++ (transRolesC22))))))))))))))))))))) := by kernel_rfl
theorem transRoles_leaves : ∀ x ∈ allLeaves transRolesTree, leafGood cfg 3000 4 [34, 3, 5] x = true := by
  intro x hx
  rw [transRoles_all] at hx
  simp only [List.mem_append] at hx
  rcases hx with hx | hx | hx | hx | hx | hx | hx | hx | hx | hx | hx | hx | hx | hx | hx | hx | hx | hx | hx | hx | hx | hx
  · exact transRoles_part1 x hx
  · exact transRoles_part2 x hx
  · exact transRoles_part3 x hx
  · exact transRoles_part4 x hx
  · exact transRoles_part5 x hx
  · exact transRoles_part6 x hx
  · exact transRoles_part7 x hx
  · exact transRoles_part8 x hx
  · exact transRoles_part9 x hx
  · exact transRoles_part10 x hx
  · exact transRoles_part11 x hx
  · exact transRoles_part12 x hx
  · exact transRoles_part13 x hx
  · exact transRoles_part14 x hx
  · exact transRoles_part15 x hx
  · exact transRoles_part16 x hx
  · exact transRoles_part17 x hx
  · exact transRoles_part18 x hx
  · exact transRoles_part19 x hx
  · exact transRoles_part20 x hx
  · exact transRoles_part21 x hx
  · exact transRoles_part22 x hx
theorem transRoles_fn (H : Type) : ∀ ds : List (DataW H), ds.length = 3 → Rows.transRolesSpec.fn H ds = { results := [.lit (.bool true)], args := ds }
  | [_, _, _], _ => rfl
set_option maxRecDepth 100000 in
theorem transRoles_lifted (os : Os) (started : os.Started) (H : Type) (enc : TypeId × Value → H) :
    ReturnsInHanded {} Try.checked os 4 .any (Rows.transRolesSpec.pre6 enc Try.prog Try.f4 Rows.transRolesRow.domain false) (Rows.transRolesSpec.post enc Try.prog Try.f4 false true false false) := by
  refine returnsInHanded_of_change (C := Try.checked) Try.own started (by kernel_rfl) Try.func4
    (ChangeSpec.witness6 (enc := enc) (C := Try.checked) false ⟨#[], #[zeroV Try.prog 34, zeroV Try.prog 3, zeroV Try.prog 5], []⟩ 8 (by kernel_rfl) (by kernel_rfl) (by kernel_rfl) (by kernel_rfl)) ?_
  intro W base args ds gs before hval hW _ _
  have hA := hW.choose_spec.choose_spec.1
  refine (law_split_of cfg_prog cfg_types cfg_hooks transRoles_tree transRoles_leaves (us := Try.f4.params.toList) rfl (fun j t v h1 h2 => hval j t v (by rw [Array.getElem?_toList] at h1; exact h1) h2) hA).mono fun e W' ⟨he, hb⟩ => ?_
  exact ⟨_, he, law_post rfl rfl (by kernel_rfl) Try.laidOut (by kernel_rfl) (transRoles_fn H ds (trodAll_len hA)) hW hb⟩
set_option maxRecDepth 100000 in
theorem transRoles_holds : Rows.TransRolesSaid :=
  OpenClaim.holds_of_wide 4 Try.f4 rfl rfl rfl rfl rfl rfl rfl ⟨rfl, rfl, rfl, rfl, rfl⟩ rfl rfl rfl rfl rfl (by kernel_rfl) Try.func4 (by kernel_rfl)
    (of_decide_eq_true (by kernel_rfl)) (by unfold Func.isWrapper; first | (rw [if_pos (by decide +kernel)]; kernel_rfl) | (rw [if_neg (by decide +kernel)]; exact ⟨rfl, rfl⟩))
    (fun os started H enc _ => transRoles_lifted os started H enc)
end Go.Proofs.Ytllkjhnmjhpbnaa
