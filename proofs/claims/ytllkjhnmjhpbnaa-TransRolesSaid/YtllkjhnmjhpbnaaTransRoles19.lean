/-
  Part 19 of the law TransRoles: some of its ways.
-/
import Derived.Test.YtllkjhnmjhpbnaaTransRoles0
namespace Go.Proofs.Ytllkjhnmjhpbnaa
open Go.SX
def transRolesC19 : List (List Bool × PC) :=
  [([true], [((.cell 0 (.cell 1000000 (.lit (0)) 18) 28), false), ((.cell 0 (.cell 1000000 (.lit (0)) 18) 42), true), ((.cell 0 (.cell 1000000 (.lit (0)) 18) 15), false), ((.cell 0 (.cell 1000000 (.lit (0)) 18) 26), false), ((.eqI (.bin .rem (.wrap .u8 (.cell 1000000 (.lit (0)) 19)) (.lit (5))) (.lit (3))), false), ((.eqI (.bin .rem (.wrap .u8 (.cell 1000000 (.lit (0)) 19)) (.lit (5))) (.lit (2))), false), ((.eqI (.bin .rem (.wrap .u8 (.cell 1000000 (.lit (0)) 19)) (.lit (5))) (.lit (1))), false), ((.eqI (.bin .rem (.wrap .u8 (.cell 1000000 (.lit (0)) 19)) (.lit (5))) (.lit (0))), false), ((.eqI (.var 0) (.lit (0))), false), ((.ltI (.cell 1000000 (.lit (0)) 18) (.var 0)), true), ((.ltI (.cell 1000000 (.lit (0)) 18) (.lit (0))), false), ((.ltI (.lit (20)) (.var 0)), false)])]
theorem transRoles_leaf19x0 : leafGood cfg 3000 4 [34, 3, 5] ([true], [((.cell 0 (.cell 1000000 (.lit (0)) 18) 28), false), ((.cell 0 (.cell 1000000 (.lit (0)) 18) 42), true), ((.cell 0 (.cell 1000000 (.lit (0)) 18) 15), false), ((.cell 0 (.cell 1000000 (.lit (0)) 18) 26), false), ((.eqI (.bin .rem (.wrap .u8 (.cell 1000000 (.lit (0)) 19)) (.lit (5))) (.lit (3))), false), ((.eqI (.bin .rem (.wrap .u8 (.cell 1000000 (.lit (0)) 19)) (.lit (5))) (.lit (2))), false), ((.eqI (.bin .rem (.wrap .u8 (.cell 1000000 (.lit (0)) 19)) (.lit (5))) (.lit (1))), false), ((.eqI (.bin .rem (.wrap .u8 (.cell 1000000 (.lit (0)) 19)) (.lit (5))) (.lit (0))), false), ((.eqI (.var 0) (.lit (0))), false), ((.ltI (.cell 1000000 (.lit (0)) 18) (.var 0)), true), ((.ltI (.cell 1000000 (.lit (0)) 18) (.lit (0))), false), ((.ltI (.lit (20)) (.var 0)), false)]) = true := by kernel_rfl
theorem transRoles_part19 : ∀ x ∈ transRolesC19, leafGood cfg 3000 4 [34, 3, 5] x = true := (List.forall_mem_cons.2 ⟨transRoles_leaf19x0, (fun _ h => by cases h)⟩)
end Go.Proofs.Ytllkjhnmjhpbnaa
