/-
  Part 1 of the law PortAlls: some of its ways.
-/
import Derived.Test.YthdecegmnleljaaPortAlls0
namespace Go.Proofs.Ythdecegmnleljaa
open Go.SX
def portAllsC1 : List (List Bool × PC) :=
  [([true], [((.ltI (.lit (20)) (.var 0)), true)])]
theorem portAlls_leaf1x0 : leafGood cfg 3000 8 [34, 3] ([true], [((.ltI (.lit (20)) (.var 0)), true)]) = true := by kernel_rfl
theorem portAlls_part1 : ∀ x ∈ portAllsC1, leafGood cfg 3000 8 [34, 3] x = true := (List.forall_mem_cons.2 ⟨portAlls_leaf1x0, (fun _ h => by cases h)⟩)
end Go.Proofs.Ythdecegmnleljaa
