/-
  Part 1 of the law BpduRoles: some of its ways.
-/
import Derived.Test.YtpkfeinnhdnfiaaBpduRoles0
namespace Go.Proofs.Ytpkfeinnhdnfiaa
open Go.SX
def bpduRolesC1 : List (List Bool × PC) :=
  [([], [])]
theorem bpduRoles_leaf1x0 : leafGood cfg 3000 9 [5, 59] ([], []) = true := by kernel_rfl
theorem bpduRoles_part1 : ∀ x ∈ bpduRolesC1, leafGood cfg 3000 9 [5, 59] x = true := (List.forall_mem_cons.2 ⟨bpduRoles_leaf1x0, (fun _ h => by cases h)⟩)
end Go.Proofs.Ytpkfeinnhdnfiaa
