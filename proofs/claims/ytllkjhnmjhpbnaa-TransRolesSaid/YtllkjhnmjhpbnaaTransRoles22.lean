/-
  Part 22 of the law TransRoles: some of its ways.
-/
import Derived.Test.YtllkjhnmjhpbnaaTransRoles0
namespace Go.Proofs.Ytllkjhnmjhpbnaa
open Go.SX
def transRolesC22 : List (List Bool × PC) :=
  [([false], [])]
theorem transRoles_leaf22x0 : leafGood cfg 3000 4 [34, 3, 5] ([false], []) = true := by kernel_rfl
theorem transRoles_part22 : ∀ x ∈ transRolesC22, leafGood cfg 3000 4 [34, 3, 5] x = true := (List.forall_mem_cons.2 ⟨transRoles_leaf22x0, (fun _ h => by cases h)⟩)
end Go.Proofs.Ytllkjhnmjhpbnaa
