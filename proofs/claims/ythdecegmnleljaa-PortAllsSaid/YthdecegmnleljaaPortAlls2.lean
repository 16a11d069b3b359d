/-
  Part 2 of the law PortAlls: some of its ways.
-/
import Derived.Test.YthdecegmnleljaaPortAlls0
namespace Go.Proofs.Ythdecegmnleljaa
open Go.SX
def portAllsC2 : List (List Bool × PC) :=
  [([true], [((.eqI (.var 0) (.lit (0))), true), ((.ltI (.lit (20)) (.var 0)), false)])]
theorem portAlls_leaf2x0 : leafGood cfg 3000 8 [34, 3] ([true], [((.eqI (.var 0) (.lit (0))), true), ((.ltI (.lit (20)) (.var 0)), false)]) = true := by kernel_rfl
theorem portAlls_part2 : ∀ x ∈ portAllsC2, leafGood cfg 3000 8 [34, 3] x = true := (List.forall_mem_cons.2 ⟨portAlls_leaf2x0, (fun _ h => by cases h)⟩)
end Go.Proofs.Ythdecegmnleljaa
