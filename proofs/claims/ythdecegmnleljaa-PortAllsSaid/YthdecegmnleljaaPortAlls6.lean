/-
  Part 6 of the law PortAlls: some of its ways.
-/
import Derived.Test.YthdecegmnleljaaPortAlls0
namespace Go.Proofs.Ythdecegmnleljaa
open Go.SX
def portAllsC6 : List (List Bool × PC) :=
  [([false], [])]
theorem portAlls_leaf6x0 : leafGood cfg 3000 8 [34, 3] ([false], []) = true := by kernel_rfl
theorem portAlls_part6 : ∀ x ∈ portAllsC6, leafGood cfg 3000 8 [34, 3] x = true := (List.forall_mem_cons.2 ⟨portAlls_leaf6x0, (fun _ h => by cases h)⟩)
end Go.Proofs.Ythdecegmnleljaa
