/-
  Part 2 of the law TransRoles: some of its ways.
-/
import Derived.Test.YtllkjhnmjhpbnaaTransRoles0
namespace Go.Proofs.Ytllkjhnmjhpbnaa
open Go.SX
def transRolesC2 : List (List Bool × PC) :=
  [([true], [((.eqI (.var 0) (.lit (0))), true), ((.ltI (.cell 1000000 (.lit (0)) 18) (.var 0)), true), ((.ltI (.cell 1000000 (.lit (0)) 18) (.lit (0))), false), ((.ltI (.lit (20)) (.var 0)), false)]),
   ([true], [((.eqI (.bin .rem (.wrap .u8 (.cell 1000000 (.lit (0)) 19)) (.lit (5))) (.lit (0))), true), ((.eqI (.var 0) (.lit (0))), false), ((.ltI (.cell 1000000 (.lit (0)) 18) (.var 0)), true), ((.ltI (.cell 1000000 (.lit (0)) 18) (.lit (0))), false), ((.ltI (.lit (20)) (.var 0)), false)])]
theorem transRoles_leaf2x0 : leafGood cfg 3000 4 [34, 3, 5] ([true], [((.eqI (.var 0) (.lit (0))), true), ((.ltI (.cell 1000000 (.lit (0)) 18) (.var 0)), true), ((.ltI (.cell 1000000 (.lit (0)) 18) (.lit (0))), false), ((.ltI (.lit (20)) (.var 0)), false)]) = true := by kernel_rfl
theorem transRoles_leaf2x1 : leafGood cfg 3000 4 [34, 3, 5] ([true], [((.eqI (.bin .rem (.wrap .u8 (.cell 1000000 (.lit (0)) 19)) (.lit (5))) (.lit (0))), true), ((.eqI (.var 0) (.lit (0))), false), ((.ltI (.cell 1000000 (.lit (0)) 18) (.var 0)), true), ((.ltI (.cell 1000000 (.lit (0)) 18) (.lit (0))), false), ((.ltI (.lit (20)) (.var 0)), false)]) = true := by kernel_rfl
theorem transRoles_part2 : ∀ x ∈ transRolesC2, leafGood cfg 3000 4 [34, 3, 5] x = true := (List.forall_mem_cons.2 ⟨transRoles_leaf2x0, (List.forall_mem_cons.2 ⟨transRoles_leaf2x1, (fun _ h => by cases h)⟩)⟩)
end Go.Proofs.Ytllkjhnmjhpbnaa
