/-
  The law AddrNumbers returns true for every input, and its arguments read as they did. Conditions: none.
-/
import Derived.Test.YtpkfeinnhdnfiaaAddrNumbers1
import Derived.Test.YtpkfeinnhdnfiaaAddrNumbers2
import Derived.Test.YtpkfeinnhdnfiaaAddrNumbers3
namespace Go.Proofs.Ytpkfeinnhdnfiaa
open Go.SX
def addrNumbersTree : List (List Bool × Sp) :=
  [([], (.node (.ltI (.bin .add (.bin .mul (.bin .add (.bin .mul (.bin .add (.bin .mul (.bin .add (.bin .mul (.bin .add (.bin .mul (.wrap .u8 (.cell 1000000 (.lit (0)) 0)) (.lit (256))) (.wrap .u8 (.cell 1000000 (.lit (0)) 1))) (.lit (256))) (.wrap .u8 (.cell 1000000 (.lit (0)) 2))) (.lit (256))) (.wrap .u8 (.cell 1000000 (.lit (0)) 3))) (.lit (256))) (.wrap .u8 (.cell 1000000 (.lit (0)) 4))) (.lit (256))) (.wrap .u8 (.cell 1000000 (.lit (0)) 5))) (.bin .add (.bin .mul (.bin .add (.bin .mul (.bin .add (.bin .mul (.bin .add (.bin .mul (.bin .add (.bin .mul (.wrap .u8 (.cell 1000000 (.lit (0)) 6)) (.lit (256))) (.wrap .u8 (.cell 1000000 (.lit (0)) 7))) (.lit (256))) (.wrap .u8 (.cell 1000000 (.lit (0)) 8))) (.lit (256))) (.wrap .u8 (.cell 1000000 (.lit (0)) 9))) (.lit (256))) (.wrap .u8 (.cell 1000000 (.lit (0)) 10))) (.lit (256))) (.wrap .u8 (.cell 1000000 (.lit (0)) 11))))
   .leaf
   (.node (.eqI (.bin .add (.bin .mul (.bin .add (.bin .mul (.bin .add (.bin .mul (.bin .add (.bin .mul (.bin .add (.bin .mul (.wrap .u8 (.cell 1000000 (.lit (0)) 0)) (.lit (256))) (.wrap .u8 (.cell 1000000 (.lit (0)) 1))) (.lit (256))) (.wrap .u8 (.cell 1000000 (.lit (0)) 2))) (.lit (256))) (.wrap .u8 (.cell 1000000 (.lit (0)) 3))) (.lit (256))) (.wrap .u8 (.cell 1000000 (.lit (0)) 4))) (.lit (256))) (.wrap .u8 (.cell 1000000 (.lit (0)) 5))) (.bin .add (.bin .mul (.bin .add (.bin .mul (.bin .add (.bin .mul (.bin .add (.bin .mul (.bin .add (.bin .mul (.wrap .u8 (.cell 1000000 (.lit (0)) 6)) (.lit (256))) (.wrap .u8 (.cell 1000000 (.lit (0)) 7))) (.lit (256))) (.wrap .u8 (.cell 1000000 (.lit (0)) 8))) (.lit (256))) (.wrap .u8 (.cell 1000000 (.lit (0)) 9))) (.lit (256))) (.wrap .u8 (.cell 1000000 (.lit (0)) 10))) (.lit (256))) (.wrap .u8 (.cell 1000000 (.lit (0)) 11))))
   .leaf
   .leaf)))]
theorem addrNumbers_tree : splitOk Try.checked.prog [31, 31, 40] addrNumbersTree = true := by kernel_rfl
theorem addrNumbers_all : allLeaves addrNumbersTree = [addrNumbersL0, addrNumbersL1, addrNumbersL2] := by kernel_rfl
set_option maxRecDepth 100000 in
theorem addrNumbers_leaves : ∀ x ∈ allLeaves addrNumbersTree, LeafOk Try.checked.prog 10 [31, 31, 40] x := by
  rw [addrNumbers_all]
  exact (List.forall_mem_cons.2 ⟨addrNumbers_ok0, (List.forall_mem_cons.2 ⟨addrNumbers_ok1, (List.forall_mem_cons.2 ⟨addrNumbers_ok2, (fun _ h => by cases h)⟩)⟩)⟩)
theorem addrNumbers_fn (H : Type) : ∀ ds : List (DataW H), ds.length = 3 → Rows.addrNumbersSpec.fn H ds = { results := [.lit (.bool true)], args := ds }
  | [_, _, _], _ => rfl
set_option maxRecDepth 100000 in
theorem addrNumbers_lifted (os : Os) (started : os.Started) (H : Type) (enc : TypeId × Value → H) :
    ReturnsInHanded {} Try.checked os 10 .any (Rows.addrNumbersSpec.pre6 enc Try.prog Try.f10 Rows.addrNumbersRow.domain false) (Rows.addrNumbersSpec.post enc Try.prog Try.f10 false true false false) := by
  refine returnsInHanded_of_change (C := Try.checked) Try.own started (by kernel_rfl) Try.func10
    (ChangeSpec.witness6 (enc := enc) (C := Try.checked) false ⟨#[], #[zeroV Try.prog 31, zeroV Try.prog 31, zeroV Try.prog 40], []⟩ 8 (by kernel_rfl) (by kernel_rfl) (by kernel_rfl) (by kernel_rfl)) ?_
  intro W base args ds gs before hval hW _ _
  have hA := hW.choose_spec.choose_spec.1
  refine (law_split_any addrNumbers_tree addrNumbers_leaves (us := Try.f10.params.toList) rfl (fun j t v h1 h2 => hval j t v (by rw [Array.getElem?_toList] at h1; exact h1) h2) hA).mono fun e W' ⟨he, hb⟩ => ?_
  exact ⟨_, he, law_post rfl rfl (by kernel_rfl) Try.laidOut (by kernel_rfl) (addrNumbers_fn H ds (trodAll_len hA)) hW hb⟩
set_option maxRecDepth 100000 in
theorem addrNumbers_holds : Rows.AddrNumbersSaid :=
  OpenClaim.holds_of_wide 10 Try.f10 rfl rfl rfl rfl rfl rfl rfl ⟨rfl, rfl, rfl, rfl, rfl⟩ rfl rfl rfl rfl rfl (by kernel_rfl) Try.func10 (by kernel_rfl)
    (of_decide_eq_true (by kernel_rfl)) (by unfold Func.isWrapper; first | (rw [if_pos (by decide +kernel)]; kernel_rfl) | (rw [if_neg (by decide +kernel)]; exact ⟨rfl, rfl⟩))
    (fun os started H enc _ => addrNumbers_lifted os started H enc)
end Go.Proofs.Ytpkfeinnhdnfiaa
