/-
  Part 3 of the law PortAlls: some of its ways.
-/
import Derived.Test.YthdecegmnleljaaPortAlls0
namespace Go.Proofs.Ythdecegmnleljaa
open Go.SX
def portAllsC3 : List (List Bool × PC) :=
  [([true], [((.ltI (.cell 1000000 (.lit (0)) 18) (.lit (0))), true), ((.eqI (.var 0) (.lit (0))), false), ((.ltI (.lit (20)) (.var 0)), false)])]
theorem portAlls_leaf3x0 : leafGood cfg 3000 8 [34, 3] ([true], [((.ltI (.cell 1000000 (.lit (0)) 18) (.lit (0))), true), ((.eqI (.var 0) (.lit (0))), false), ((.ltI (.lit (20)) (.var 0)), false)]) = true := by kernel_rfl
theorem portAlls_part3 : ∀ x ∈ portAllsC3, leafGood cfg 3000 8 [34, 3] x = true := (List.forall_mem_cons.2 ⟨portAlls_leaf3x0, (fun _ h => by cases h)⟩)
end Go.Proofs.Ythdecegmnleljaa
