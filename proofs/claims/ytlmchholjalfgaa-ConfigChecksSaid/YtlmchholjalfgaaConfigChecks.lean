/-
  The law ConfigChecks returns true for every input, and its arguments read as they did. Conditions: none.
-/
import Derived.Test.YtlmchholjalfgaaConfigChecks1
import Derived.Test.YtlmchholjalfgaaConfigChecks2
import Derived.Test.YtlmchholjalfgaaConfigChecks3
import Derived.Test.YtlmchholjalfgaaConfigChecks4
import Derived.Test.YtlmchholjalfgaaConfigChecks5
import Derived.Test.YtlmchholjalfgaaConfigChecks6
import Derived.Test.YtlmchholjalfgaaConfigChecks7
import Derived.Test.YtlmchholjalfgaaConfigChecks8
namespace Go.Proofs.Ytlmchholjalfgaa
open Go.SX
def configChecksTree : List (List Bool × Sp) :=
  [([true], (.node (.ltI (.lit (100)) (.var 0))
   .leaf
   (.node (.ltI (.cell 1000000 (.lit (0)) 21) (.lit (1)))
   .leaf
   (.node (.ltI (.lit (7)) (.cell 1000000 (.lit (0)) 21))
   .leaf
   (.node (.eqI (.cell 1000000 (.lit (0)) 21) (.lit (1)))
   .leaf
   (.node (.eqI (.cell 1000000 (.lit (0)) 21) (.lit (2)))
   .leaf
   (.node (.eqI (.cell 1000000 (.lit (0)) 21) (.lit (3)))
   .leaf
   (.node (.eqI (.cell 1000000 (.lit (0)) 21) (.lit (4)))
   .leaf
   (.node (.eqI (.cell 1000000 (.lit (0)) 21) (.lit (5)))
   .leaf
   (.node (.eqI (.cell 1000000 (.lit (0)) 21) (.lit (6)))
   .leaf
   .leaf)))))))))),
  ([false], (.node (.ltI (.cell 1000000 (.lit (0)) 21) (.lit (1)))
   .leaf
   (.node (.ltI (.lit (7)) (.cell 1000000 (.lit (0)) 21))
   .leaf
   (.node (.eqI (.cell 1000000 (.lit (0)) 21) (.lit (1)))
   .leaf
   (.node (.eqI (.cell 1000000 (.lit (0)) 21) (.lit (2)))
   .leaf
   (.node (.eqI (.cell 1000000 (.lit (0)) 21) (.lit (3)))
   .leaf
   (.node (.eqI (.cell 1000000 (.lit (0)) 21) (.lit (4)))
   .leaf
   (.node (.eqI (.cell 1000000 (.lit (0)) 21) (.lit (5)))
   .leaf
   (.node (.eqI (.cell 1000000 (.lit (0)) 21) (.lit (6)))
   .leaf
   .leaf)))))))))]
theorem configChecks_tree : splitOk Try.checked.prog [28, 23, 3] configChecksTree = true := by kernel_rfl
theorem configChecks_all : allLeaves configChecksTree = [configChecksL0, configChecksL1, configChecksL2, configChecksL3, configChecksL4, configChecksL5, configChecksL6, configChecksL7, configChecksL8, configChecksL9, configChecksL10, configChecksL11, configChecksL12, configChecksL13, configChecksL14, configChecksL15, configChecksL16, configChecksL17, configChecksL18] := by kernel_rfl
set_option maxRecDepth 100000 in
theorem configChecks_leaves : ∀ x ∈ allLeaves configChecksTree, LeafOk Try.checked.prog 3 [28, 23, 3] x := by
  rw [configChecks_all]
  exact (List.forall_mem_cons.2 ⟨configChecks_ok0, (List.forall_mem_cons.2 ⟨configChecks_ok1, (List.forall_mem_cons.2 ⟨configChecks_ok2, (List.forall_mem_cons.2 ⟨configChecks_ok3, (List.forall_mem_cons.2 ⟨configChecks_ok4, (List.forall_mem_cons.2 ⟨configChecks_ok5, (List.forall_mem_cons.2 ⟨configChecks_ok6, (List.forall_mem_cons.2 ⟨configChecks_ok7, (List.forall_mem_cons.2 ⟨configChecks_ok8, (List.forall_mem_cons.2 ⟨configChecks_ok9, (List.forall_mem_cons.2 ⟨configChecks_ok10, (List.forall_mem_cons.2 ⟨configChecks_ok11, (List.forall_mem_cons.2 ⟨configChecks_ok12, (List.forall_mem_cons.2 ⟨configChecks_ok13, (List.forall_mem_cons.2 ⟨configChecks_ok14, (List.forall_mem_cons.2 ⟨configChecks_ok15, (List.forall_mem_cons.2 ⟨configChecks_ok16, (List.forall_mem_cons.2 ⟨configChecks_ok17, (List.forall_mem_cons.2 ⟨configChecks_ok18, (fun _ h => by cases h)⟩)⟩)⟩)⟩)⟩)⟩)⟩)⟩)⟩)⟩)⟩)⟩)⟩)⟩)⟩)⟩)⟩)⟩)⟩)
theorem configChecks_fn (H : Type) : ∀ ds : List (DataW H), ds.length = 3 → Rows.configChecksSpec.fn H ds = { results := [.lit (.bool true)], args := ds }
  | [_, _, _], _ => rfl
set_option maxRecDepth 100000 in
theorem configChecks_lifted (os : Os) (started : os.Started) (H : Type) (enc : TypeId × Value → H) :
    ReturnsInHanded {} Try.checked os 3 .any (Rows.configChecksSpec.pre6 enc Try.prog Try.f3 Rows.configChecksRow.domain false) (Rows.configChecksSpec.post enc Try.prog Try.f3 false true false false) := by
  refine returnsInHanded_of_change (C := Try.checked) Try.own started (by kernel_rfl) Try.func3
    (ChangeSpec.witness6 (enc := enc) (C := Try.checked) false ⟨#[], #[zeroV Try.prog 28, zeroV Try.prog 23, zeroV Try.prog 3], []⟩ 8 (by kernel_rfl) (by kernel_rfl) (by kernel_rfl) (by kernel_rfl)) ?_
  intro W base args ds gs before hval hW _ _
  have hA := hW.choose_spec.choose_spec.1
  refine (law_split_any configChecks_tree configChecks_leaves (us := Try.f3.params.toList) rfl (fun j t v h1 h2 => hval j t v (by rw [Array.getElem?_toList] at h1; exact h1) h2) hA).mono fun e W' ⟨he, hb⟩ => ?_
  exact ⟨_, he, law_post rfl rfl (by kernel_rfl) Try.laidOut (by kernel_rfl) (configChecks_fn H ds (trodAll_len hA)) hW hb⟩
set_option maxRecDepth 100000 in
theorem configChecks_holds : Rows.ConfigChecksSaid :=
  OpenClaim.holds_of_wide 3 Try.f3 rfl rfl rfl rfl rfl rfl rfl ⟨rfl, rfl, rfl, rfl, rfl⟩ rfl rfl rfl rfl rfl (by kernel_rfl) Try.func3 (by kernel_rfl)
    (of_decide_eq_true (by kernel_rfl)) (by unfold Func.isWrapper; first | (rw [if_pos (by decide +kernel)]; kernel_rfl) | (rw [if_neg (by decide +kernel)]; exact ⟨rfl, rfl⟩))
    (fun os started H enc _ => configChecks_lifted os started H enc)
end Go.Proofs.Ytlmchholjalfgaa
