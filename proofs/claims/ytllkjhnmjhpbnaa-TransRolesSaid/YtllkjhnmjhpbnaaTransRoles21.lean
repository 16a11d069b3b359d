/-
  Part 21 of the law TransRoles: some of its ways.
-/
import Derived.Test.YtllkjhnmjhpbnaaTransRoles0
namespace Go.Proofs.Ytllkjhnmjhpbnaa
open Go.SX
def transRolesC21 : List (List Bool × PC) :=
  [([true], [((.ltI (.cell 1000000 (.lit (0)) 18) (.var 0)), false), ((.ltI (.cell 1000000 (.lit (0)) 18) (.lit (0))), false), ((.ltI (.lit (20)) (.var 0)), false)])]
theorem transRoles_leaf21x0 : leafGood cfg 3000 4 [34, 3, 5] ([true], [((.ltI (.cell 1000000 (.lit (0)) 18) (.var 0)), false), ((.ltI (.cell 1000000 (.lit (0)) 18) (.lit (0))), false), ((.ltI (.lit (20)) (.var 0)), false)]) = true := by kernel_rfl
theorem transRoles_part21 : ∀ x ∈ transRolesC21, leafGood cfg 3000 4 [34, 3, 5] x = true := (List.forall_mem_cons.2 ⟨transRoles_leaf21x0, (fun _ h => by cases h)⟩)
end Go.Proofs.Ytllkjhnmjhpbnaa
