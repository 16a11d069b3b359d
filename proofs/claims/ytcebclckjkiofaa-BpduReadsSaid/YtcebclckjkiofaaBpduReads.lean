/-
  Of any bytes the law BpduReads returns true: the message, or what is wrong first; its own bytes are read as it. Conditions: none.
-/
import Derived.Test.YtcebclckjkiofaaBpduReads1
import Derived.Test.YtcebclckjkiofaaBpduReads2
import Derived.Test.YtcebclckjkiofaaBpduReads3
import Derived.Test.YtcebclckjkiofaaBpduReads4
import Derived.Test.YtcebclckjkiofaaBpduReads5
import Derived.Test.YtcebclckjkiofaaBpduReads6
namespace Go.Proofs.Ytcebclckjkiofaa
open Go.SX
def bpduReadsTree : List (List Bool × Sp) :=
  [([true], (.node (.ltI (.lit (300)) (.var 0))
   .leaf
   (.node (.eqI (.var 0) (.lit (0)))
   .leaf
   (.node (.ltI (.var 0) (.lit (4)))
   .leaf
   (.node (.eqI (.wrap .u8 (.cell 0 (.lit (0)) 0)) (.lit (0)))
   (.node (.eqI (.wrap .u8 (.cell 0 (.lit (1)) 0)) (.lit (0)))
   (.node (.eqI (.wrap .u8 (.cell 0 (.lit (3)) 0)) (.lit (128)))
   .leaf
   (.node (.eqI (.wrap .u8 (.cell 0 (.lit (3)) 0)) (.lit (0)))
   (.node (.ltI (.var 0) (.lit (35)))
   .leaf
   (.node (.ltI (.bin .add (.bin .mul (.wrap .u8 (.cell 0 (.lit (27)) 0)) (.lit (256))) (.wrap .u8 (.cell 0 (.lit (28)) 0))) (.bin .add (.bin .mul (.wrap .u8 (.cell 0 (.lit (29)) 0)) (.lit (256))) (.wrap .u8 (.cell 0 (.lit (30)) 0))))
   .leaf
   .leaf))
   (.node (.eqI (.wrap .u8 (.cell 0 (.lit (3)) 0)) (.lit (2)))
   (.node (.ltI (.wrap .u8 (.cell 0 (.lit (2)) 0)) (.lit (2)))
   .leaf
   (.node (.ltI (.var 0) (.lit (35)))
   .leaf
   (.node (.ltI (.var 0) (.lit (36)))
   .leaf
   (.node (.ltI (.bin .add (.bin .mul (.wrap .u8 (.cell 0 (.lit (27)) 0)) (.lit (256))) (.wrap .u8 (.cell 0 (.lit (28)) 0))) (.bin .add (.bin .mul (.wrap .u8 (.cell 0 (.lit (29)) 0)) (.lit (256))) (.wrap .u8 (.cell 0 (.lit (30)) 0))))
   (.node (.eqI (.bin .rem (.bin .quo (.wrap .u8 (.cell 0 (.lit (4)) 0)) (.lit (4))) (.lit (4))) (.lit (0)))
   .leaf
   .leaf)
   .leaf))))
   .leaf)))
   .leaf)
   .leaf))))),
  ([false], .leaf)]
theorem bpduReads_tree : splitOk Try.checked.prog [24] bpduReadsTree = true := by kernel_rfl
theorem bpduReads_all : allLeaves bpduReadsTree = [bpduReadsL0, bpduReadsL1, bpduReadsL2, bpduReadsL3, bpduReadsL4, bpduReadsL5, bpduReadsL6, bpduReadsL7, bpduReadsL8, bpduReadsL9, bpduReadsL10, bpduReadsL11, bpduReadsL12, bpduReadsL13, bpduReadsL14, bpduReadsL15, bpduReadsL16] := by kernel_rfl
set_option maxRecDepth 100000 in
theorem bpduReads_leaves : ∀ x ∈ allLeaves bpduReadsTree, LeafOk Try.checked.prog 8 [24] x := by
  rw [bpduReads_all]
  exact (List.forall_mem_cons.2 ⟨bpduReads_ok0, (List.forall_mem_cons.2 ⟨bpduReads_ok1, (List.forall_mem_cons.2 ⟨bpduReads_ok2, (List.forall_mem_cons.2 ⟨bpduReads_ok3, (List.forall_mem_cons.2 ⟨bpduReads_ok4, (List.forall_mem_cons.2 ⟨bpduReads_ok5, (List.forall_mem_cons.2 ⟨bpduReads_ok6, (List.forall_mem_cons.2 ⟨bpduReads_ok7, (List.forall_mem_cons.2 ⟨bpduReads_ok8, (List.forall_mem_cons.2 ⟨bpduReads_ok9, (List.forall_mem_cons.2 ⟨bpduReads_ok10, (List.forall_mem_cons.2 ⟨bpduReads_ok11, (List.forall_mem_cons.2 ⟨bpduReads_ok12, (List.forall_mem_cons.2 ⟨bpduReads_ok13, (List.forall_mem_cons.2 ⟨bpduReads_ok14, (List.forall_mem_cons.2 ⟨bpduReads_ok15, (List.forall_mem_cons.2 ⟨bpduReads_ok16, (fun _ h => by cases h)⟩)⟩)⟩)⟩)⟩)⟩)⟩)⟩)⟩)⟩)⟩)⟩)⟩)⟩)⟩)⟩)⟩)
theorem bpduReads_fn (H : Type) : ∀ ds : List (DataW H), ds.length = 1 → Rows.bpduReadsSpec.fn H ds = { results := [.lit (.bool true)], args := ds }
  | [_], _ => rfl
set_option maxRecDepth 100000 in
theorem bpduReads_lifted (os : Os) (started : os.Started) (H : Type) (enc : TypeId × Value → H) :
    ReturnsInHanded {} Try.checked os 8 .any (Rows.bpduReadsSpec.pre6 enc Try.prog Try.f8 Rows.bpduReadsRow.domain false) (Rows.bpduReadsSpec.post enc Try.prog Try.f8 false true false false) := by
  refine returnsInHanded_of_change (C := Try.checked) Try.own started (by kernel_rfl) Try.func8
    (ChangeSpec.witness6 (enc := enc) (C := Try.checked) false ⟨#[], #[zeroV Try.prog 24], []⟩ 8 (by kernel_rfl) (by kernel_rfl) (by kernel_rfl) (by kernel_rfl)) ?_
  intro W base args ds gs before hval hW _ _
  have hA := hW.choose_spec.choose_spec.1
  refine (law_split_any bpduReads_tree bpduReads_leaves (us := Try.f8.params.toList) rfl (fun j t v h1 h2 => hval j t v (by rw [Array.getElem?_toList] at h1; exact h1) h2) hA).mono fun e W' ⟨he, hb⟩ => ?_
  exact ⟨_, he, law_post rfl rfl (by kernel_rfl) Try.laidOut (by kernel_rfl) (bpduReads_fn H ds (trodAll_len hA)) hW hb⟩
set_option maxRecDepth 100000 in
theorem bpduReads_holds : Rows.BpduReadsSaid :=
  OpenClaim.holds_of_wide 8 Try.f8 rfl rfl rfl rfl rfl rfl rfl ⟨rfl, rfl, rfl, rfl, rfl⟩ rfl rfl rfl rfl rfl (by kernel_rfl) Try.func8 (by kernel_rfl)
    (of_decide_eq_true (by kernel_rfl)) (by unfold Func.isWrapper; first | (rw [if_pos (by decide +kernel)]; kernel_rfl) | (rw [if_neg (by decide +kernel)]; exact ⟨rfl, rfl⟩))
    (fun os started H enc _ => bpduReads_lifted os started H enc)
end Go.Proofs.Ytcebclckjkiofaa
