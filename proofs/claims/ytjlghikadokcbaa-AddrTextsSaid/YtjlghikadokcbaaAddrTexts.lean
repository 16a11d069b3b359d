/-
  The law AddrTexts returns true for every input, and its arguments read as they did. Conditions: none.
-/
import Derived.Test.YtjlghikadokcbaaAddrTexts1
import Derived.Test.YtjlghikadokcbaaAddrTexts2
import Derived.Test.YtjlghikadokcbaaAddrTexts3
import Derived.Test.YtjlghikadokcbaaAddrTexts4
import Derived.Test.YtjlghikadokcbaaAddrTexts5
import Derived.Test.YtjlghikadokcbaaAddrTexts6
import Derived.Test.YtjlghikadokcbaaAddrTexts7
namespace Go.Proofs.Ytjlghikadokcbaa
open Go.SX
def addrTextsTree : List (List Bool × Sp) :=
  [([], (.node (.ltI (.lit (100)) (.wrap .u64 (.cell 1000000 (.lit (0)) 0)))
   .leaf
   (.node (.eqI (.wrap .u64 (.cell 1000000 (.lit (0)) 0)) (.lit (17)))
   (.node (.eqI (.bin .rem (.wrap .u8 (.bin (.shr 256) (.lit (9982748476797594485687712743424)) (.wrap .u8 (.cell 1000001 (.lit (0)) 0)))) (.lit (2))) (.lit (1)))
   (.node (.eqI (.bin .rem (.wrap .u8 (.bin (.shr 256) (.lit (9982748476797594485687712743424)) (.wrap .u8 (.cell 1000001 (.lit (1)) 0)))) (.lit (2))) (.lit (1)))
   (.node (.eqI (.wrap .u8 (.cell 1000001 (.lit (2)) 0)) (.lit (58)))
   (.node (.eqI (.bin .rem (.wrap .u8 (.bin (.shr 256) (.lit (9982748476797594485687712743424)) (.wrap .u8 (.cell 1000001 (.lit (3)) 0)))) (.lit (2))) (.lit (1)))
   (.node (.eqI (.bin .rem (.wrap .u8 (.bin (.shr 256) (.lit (9982748476797594485687712743424)) (.wrap .u8 (.cell 1000001 (.lit (4)) 0)))) (.lit (2))) (.lit (1)))
   (.node (.eqI (.wrap .u8 (.cell 1000001 (.lit (5)) 0)) (.lit (58)))
   (.node (.eqI (.bin .rem (.wrap .u8 (.bin (.shr 256) (.lit (9982748476797594485687712743424)) (.wrap .u8 (.cell 1000001 (.lit (6)) 0)))) (.lit (2))) (.lit (1)))
   (.node (.eqI (.bin .rem (.wrap .u8 (.bin (.shr 256) (.lit (9982748476797594485687712743424)) (.wrap .u8 (.cell 1000001 (.lit (7)) 0)))) (.lit (2))) (.lit (1)))
   (.node (.eqI (.wrap .u8 (.cell 1000001 (.lit (8)) 0)) (.lit (58)))
   (.node (.eqI (.bin .rem (.wrap .u8 (.bin (.shr 256) (.lit (9982748476797594485687712743424)) (.wrap .u8 (.cell 1000001 (.lit (9)) 0)))) (.lit (2))) (.lit (1)))
   (.node (.eqI (.bin .rem (.wrap .u8 (.bin (.shr 256) (.lit (9982748476797594485687712743424)) (.wrap .u8 (.cell 1000001 (.lit (10)) 0)))) (.lit (2))) (.lit (1)))
   (.node (.eqI (.wrap .u8 (.cell 1000001 (.lit (11)) 0)) (.lit (58)))
   (.node (.eqI (.bin .rem (.wrap .u8 (.bin (.shr 256) (.lit (9982748476797594485687712743424)) (.wrap .u8 (.cell 1000001 (.lit (12)) 0)))) (.lit (2))) (.lit (1)))
   (.node (.eqI (.bin .rem (.wrap .u8 (.bin (.shr 256) (.lit (9982748476797594485687712743424)) (.wrap .u8 (.cell 1000001 (.lit (13)) 0)))) (.lit (2))) (.lit (1)))
   (.node (.eqI (.wrap .u8 (.cell 1000001 (.lit (14)) 0)) (.lit (58)))
   (.node (.eqI (.bin .rem (.wrap .u8 (.bin (.shr 256) (.lit (9982748476797594485687712743424)) (.wrap .u8 (.cell 1000001 (.lit (15)) 0)))) (.lit (2))) (.lit (1)))
   (.node (.eqI (.bin .rem (.wrap .u8 (.bin (.shr 256) (.lit (9982748476797594485687712743424)) (.wrap .u8 (.cell 1000001 (.lit (16)) 0)))) (.lit (2))) (.lit (1)))
   .leaf
   .leaf)
   .leaf)
   .leaf)
   .leaf)
   .leaf)
   .leaf)
   .leaf)
   .leaf)
   .leaf)
   .leaf)
   .leaf)
   .leaf)
   .leaf)
   .leaf)
   .leaf)
   .leaf)
   .leaf)
   .leaf)))]
theorem addrTexts_tree : splitOk Try.checked.prog [9] addrTextsTree = true := by kernel_rfl
theorem addrTexts_all : allLeaves addrTextsTree = [addrTextsL0, addrTextsL1, addrTextsL2, addrTextsL3, addrTextsL4, addrTextsL5, addrTextsL6, addrTextsL7, addrTextsL8, addrTextsL9, addrTextsL10, addrTextsL11, addrTextsL12, addrTextsL13, addrTextsL14, addrTextsL15, addrTextsL16, addrTextsL17, addrTextsL18, addrTextsL19] := by kernel_rfl
set_option maxRecDepth 100000 in
theorem addrTexts_leaves : ∀ x ∈ allLeaves addrTextsTree, LeafOk Try.checked.prog 3 [9] x := by
  rw [addrTexts_all]
  exact (List.forall_mem_cons.2 ⟨addrTexts_ok0, (List.forall_mem_cons.2 ⟨addrTexts_ok1, (List.forall_mem_cons.2 ⟨addrTexts_ok2, (List.forall_mem_cons.2 ⟨addrTexts_ok3, (List.forall_mem_cons.2 ⟨addrTexts_ok4, (List.forall_mem_cons.2 ⟨addrTexts_ok5, (List.forall_mem_cons.2 ⟨addrTexts_ok6, (List.forall_mem_cons.2 ⟨addrTexts_ok7, (List.forall_mem_cons.2 ⟨addrTexts_ok8, (List.forall_mem_cons.2 ⟨addrTexts_ok9, (List.forall_mem_cons.2 ⟨addrTexts_ok10, (List.forall_mem_cons.2 ⟨addrTexts_ok11, (List.forall_mem_cons.2 ⟨addrTexts_ok12, (List.forall_mem_cons.2 ⟨addrTexts_ok13, (List.forall_mem_cons.2 ⟨addrTexts_ok14, (List.forall_mem_cons.2 ⟨addrTexts_ok15, (List.forall_mem_cons.2 ⟨addrTexts_ok16, (List.forall_mem_cons.2 ⟨addrTexts_ok17, (List.forall_mem_cons.2 ⟨addrTexts_ok18, (List.forall_mem_cons.2 ⟨addrTexts_ok19, (fun _ h => by cases h)⟩)⟩)⟩)⟩)⟩)⟩)⟩)⟩)⟩)⟩)⟩)⟩)⟩)⟩)⟩)⟩)⟩)⟩)⟩)⟩)
theorem addrTexts_fn (H : Type) : ∀ ds : List (DataW H), ds.length = 1 → Rows.addrTextsSpec.fn H ds = { results := [.lit (.bool true)], args := ds }
  | [_], _ => rfl
set_option maxRecDepth 100000 in
theorem addrTexts_lifted (os : Os) (started : os.Started) (H : Type) (enc : TypeId × Value → H) :
    ReturnsInHanded {} Try.checked os 3 .any (Rows.addrTextsSpec.pre6 enc Try.prog Try.f3 Rows.addrTextsRow.domain false) (Rows.addrTextsSpec.post enc Try.prog Try.f3 false true false false) := by
  refine returnsInHanded_of_change (C := Try.checked) Try.own started (by kernel_rfl) Try.func3
    (ChangeSpec.witness6 (enc := enc) (C := Try.checked) false ⟨#[], #[zeroV Try.prog 9], []⟩ 8 (by kernel_rfl) (by kernel_rfl) (by kernel_rfl) (by kernel_rfl)) ?_
  intro W base args ds gs before hval hW _ _
  have hA := hW.choose_spec.choose_spec.1
  refine (law_split_any addrTexts_tree addrTexts_leaves (us := Try.f3.params.toList) rfl (fun j t v h1 h2 => hval j t v (by rw [Array.getElem?_toList] at h1; exact h1) h2) hA).mono fun e W' ⟨he, hb⟩ => ?_
  exact ⟨_, he, law_post rfl rfl (by kernel_rfl) Try.laidOut (by kernel_rfl) (addrTexts_fn H ds (trodAll_len hA)) hW hb⟩
set_option maxRecDepth 100000 in
theorem addrTexts_holds : Rows.AddrTextsSaid :=
  OpenClaim.holds_of_wide 3 Try.f3 rfl rfl rfl rfl rfl rfl rfl ⟨rfl, rfl, rfl, rfl, rfl⟩ rfl rfl rfl rfl rfl (by kernel_rfl) Try.func3 (by kernel_rfl)
    (of_decide_eq_true (by kernel_rfl)) (by unfold Func.isWrapper; first | (rw [if_pos (by decide +kernel)]; kernel_rfl) | (rw [if_neg (by decide +kernel)]; exact ⟨rfl, rfl⟩))
    (fun os started H enc _ => addrTexts_lifted os started H enc)
end Go.Proofs.Ytjlghikadokcbaa
