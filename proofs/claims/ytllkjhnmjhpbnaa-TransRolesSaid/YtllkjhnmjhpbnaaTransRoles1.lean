/-
  Part 1 of the law TransRoles: some of its ways.
-/
import Derived.Test.YtllkjhnmjhpbnaaTransRoles0
namespace Go.Proofs.Ytllkjhnmjhpbnaa
open Go.SX
def transRolesC1 : List (List Bool × PC) :=
  [([true], [((.ltI (.lit (20)) (.var 0)), true)]),
   ([true], [((.ltI (.cell 1000000 (.lit (0)) 18) (.lit (0))), true), ((.ltI (.lit (20)) (.var 0)), false)])]
theorem transRoles_leaf1x0 : leafGood cfg 3000 4 [34, 3, 5] ([true], [((.ltI (.lit (20)) (.var 0)), true)]) = true := by kernel_rfl
theorem transRoles_leaf1x1 : leafGood cfg 3000 4 [34, 3, 5] ([true], [((.ltI (.cell 1000000 (.lit (0)) 18) (.lit (0))), true), ((.ltI (.lit (20)) (.var 0)), false)]) = true := by kernel_rfl
theorem transRoles_part1 : ∀ x ∈ transRolesC1, leafGood cfg 3000 4 [34, 3, 5] x = true := (List.forall_mem_cons.2 ⟨transRoles_leaf1x0, (List.forall_mem_cons.2 ⟨transRoles_leaf1x1, (fun _ h => by cases h)⟩)⟩)
end Go.Proofs.Ytllkjhnmjhpbnaa
