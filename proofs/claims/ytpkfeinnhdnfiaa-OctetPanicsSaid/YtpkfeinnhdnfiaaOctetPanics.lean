/-
  The law OctetPanics returns true for every number and all bytes: a panic of its own goes on through a reading. Conditions: none.
-/
import Derived.Test.YtpkfeinnhdnfiaaOctetPanics1
namespace Go.Proofs.Ytpkfeinnhdnfiaa
open Go.SX
def octetPanicsTree : List (List Bool × Sp) :=
  [([true], .leaf),
  ([false], .leaf)]
theorem octetPanics_tree : splitOk Try.checked.prog [3, 28] octetPanicsTree = true := by kernel_rfl
theorem octetPanics_all : allLeaves octetPanicsTree = [octetPanicsL0, octetPanicsL1] := by kernel_rfl
set_option maxRecDepth 100000 in
theorem octetPanics_leaves : ∀ x ∈ allLeaves octetPanicsTree, LeafOk Try.checked.prog 4 [3, 28] x := by
  rw [octetPanics_all]
  exact (List.forall_mem_cons.2 ⟨octetPanics_ok0, (List.forall_mem_cons.2 ⟨octetPanics_ok1, (fun _ h => by cases h)⟩)⟩)
theorem octetPanics_fn (H : Type) : ∀ ds : List (DataW H), ds.length = 2 → Rows.octetPanicsSpec.fn H ds = { results := [.lit (.bool true)], args := ds }
  | [_, _], _ => rfl
set_option maxRecDepth 100000 in
theorem octetPanics_lifted (os : Os) (started : os.Started) (H : Type) (enc : TypeId × Value → H) :
    ReturnsInHanded {} Try.checked os 4 .any (Rows.octetPanicsSpec.pre6 enc Try.prog Try.f4 Rows.octetPanicsRow.domain false) (Rows.octetPanicsSpec.post enc Try.prog Try.f4 false true false false) := by
  refine returnsInHanded_of_change (C := Try.checked) Try.own started (by kernel_rfl) Try.func4
    (ChangeSpec.witness6 (enc := enc) (C := Try.checked) false ⟨#[], #[zeroV Try.prog 3, zeroV Try.prog 28], []⟩ 8 (by kernel_rfl) (by kernel_rfl) (by kernel_rfl) (by kernel_rfl)) ?_
  intro W base args ds gs before hval hW _ _
  have hA := hW.choose_spec.choose_spec.1
  refine (law_split_any octetPanics_tree octetPanics_leaves (us := Try.f4.params.toList) rfl (fun j t v h1 h2 => hval j t v (by rw [Array.getElem?_toList] at h1; exact h1) h2) hA).mono fun e W' ⟨he, hb⟩ => ?_
  exact ⟨_, he, law_post rfl rfl (by kernel_rfl) Try.laidOut (by kernel_rfl) (octetPanics_fn H ds (trodAll_len hA)) hW hb⟩
set_option maxRecDepth 100000 in
theorem octetPanics_holds : Rows.OctetPanicsSaid :=
  OpenClaim.holds_of_wide 4 Try.f4 rfl rfl rfl rfl rfl rfl rfl ⟨rfl, rfl, rfl, rfl, rfl⟩ rfl rfl rfl rfl rfl (by kernel_rfl) Try.func4 (by kernel_rfl)
    (of_decide_eq_true (by kernel_rfl)) (by unfold Func.isWrapper; first | (rw [if_pos (by decide +kernel)]; kernel_rfl) | (rw [if_neg (by decide +kernel)]; exact ⟨rfl, rfl⟩))
    (fun os started H enc _ => octetPanics_lifted os started H enc)
end Go.Proofs.Ytpkfeinnhdnfiaa
