/-
  Of any bridge the law TransmitStarts returns true: a port's machine begins as the document says, and any port's two messages are of their kinds and tell its role. Conditions: none.
-/
import Derived.Test.YthdecegmnleljaaTransmitStarts1
import Derived.Test.YthdecegmnleljaaTransmitStarts2
import Derived.Test.YthdecegmnleljaaTransmitStarts3
namespace Go.Proofs.Ythdecegmnleljaa
open Go.SX
def transmitStartsTree : List (List Bool × Sp) :=
  [([true], (.node (.ltI (.lit (20)) (.var 0))
   .leaf
   (.node (.eqI (.var 0) (.lit (0)))
   .leaf
   (.node (.ltI (.cell 1000000 (.lit (0)) 18) (.var 0))
   (.node (.ltI (.cell 1000000 (.lit (0)) 18) (.lit (0)))
   .leaf
   .leaf)
   .leaf)))),
  ([false], .leaf)]
theorem transmitStarts_tree : splitOk Try.checked.prog [34, 3] transmitStartsTree = true := by kernel_rfl
theorem transmitStarts_all : allLeaves transmitStartsTree = [transmitStartsL0, transmitStartsL1, transmitStartsL2, transmitStartsL3, transmitStartsL4, transmitStartsL5] := by kernel_rfl
theorem transmitStarts_leaves : ∀ x ∈ allLeaves transmitStartsTree, LeafOk Try.checked.prog 12 [34, 3] x := by
  rw [transmitStarts_all]
  exact (List.forall_mem_cons.2 ⟨transmitStarts_ok0, (List.forall_mem_cons.2 ⟨transmitStarts_ok1, (List.forall_mem_cons.2 ⟨transmitStarts_ok2, (List.forall_mem_cons.2 ⟨transmitStarts_ok3, (List.forall_mem_cons.2 ⟨transmitStarts_ok4, (List.forall_mem_cons.2 ⟨transmitStarts_ok5, (fun _ h => by cases h)⟩)⟩)⟩)⟩)⟩)⟩)
theorem transmitStarts_fn (H : Type) : ∀ ds : List (DataW H), ds.length = 2 → Rows.transmitStartsSpec.fn H ds = { results := [.lit (.bool true)], args := ds }
  | [_, _], _ => rfl
set_option maxRecDepth 100000 in
theorem transmitStarts_lifted (os : Os) (started : os.Started) (H : Type) (enc : TypeId × Value → H) :
    ReturnsInHanded {} Try.checked os 12 .any (Rows.transmitStartsSpec.pre6 enc Try.prog Try.f12 Rows.transmitStartsRow.domain false) (Rows.transmitStartsSpec.post enc Try.prog Try.f12 false true false false) := by
  refine returnsInHanded_of_change (C := Try.checked) Try.own started (by kernel_rfl) Try.func12
    (ChangeSpec.witness6 (enc := enc) (C := Try.checked) false ⟨#[], #[zeroV Try.prog 34, zeroV Try.prog 3], []⟩ 8 (by kernel_rfl) (by kernel_rfl) (by kernel_rfl) (by kernel_rfl)) ?_
  intro W base args ds gs before hval hW _ _
  have hA := hW.choose_spec.choose_spec.1
  refine (law_split_any transmitStarts_tree transmitStarts_leaves (us := Try.f12.params.toList) rfl (fun j t v h1 h2 => hval j t v (by rw [Array.getElem?_toList] at h1; exact h1) h2) hA).mono fun e W' ⟨he, hb⟩ => ?_
  exact ⟨_, he, law_post rfl rfl (by kernel_rfl) Try.laidOut (by kernel_rfl) (transmitStarts_fn H ds (trodAll_len hA)) hW hb⟩
set_option maxRecDepth 100000 in
theorem transmitStarts_holds : Rows.TransmitStartsSaid :=
  OpenClaim.holds_of_wide 12 Try.f12 rfl rfl rfl rfl rfl rfl rfl ⟨rfl, rfl, rfl, rfl, rfl⟩ rfl rfl rfl rfl rfl (by kernel_rfl) Try.func12 (by kernel_rfl)
    (of_decide_eq_true (by kernel_rfl)) (by unfold Func.isWrapper; first | (rw [if_pos (by decide +kernel)]; kernel_rfl) | (rw [if_neg (by decide +kernel)]; exact ⟨rfl, rfl⟩))
    (fun os started H enc _ => transmitStarts_lifted os started H enc)
end Go.Proofs.Ythdecegmnleljaa
