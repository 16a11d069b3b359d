/-
  Any port: InfoNews returns true; what its message tells is what the document says. Conditions: none.
-/
import Derived.Test.YtllkjhnmjhpbnaaInfoNews1
import Derived.Test.YtllkjhnmjhpbnaaInfoNews2
import Derived.Test.YtllkjhnmjhpbnaaInfoNews3
import Derived.Test.YtllkjhnmjhpbnaaInfoNews4
import Derived.Test.YtllkjhnmjhpbnaaInfoNews5
import Derived.Test.YtllkjhnmjhpbnaaInfoNews6
namespace Go.Proofs.Ytllkjhnmjhpbnaa
open Go.SX
def infoNewsTree : List (List Bool × Sp) :=
  [([], (.node (.ltI (.wrap .u64 (.cell 1000000 (.lit (0)) 74)) (.wrap .u64 (.cell 1000000 (.lit (0)) 56)))
   .leaf
   (.node (.ltI (.wrap .u64 (.cell 1000000 (.lit (0)) 56)) (.wrap .u64 (.cell 1000000 (.lit (0)) 74)))
   (.node (.all 999983 (.lit (1)) (.and (.eqI (.bin .rem (.bin .quo (.wrap .u64 (.cell 1000000 (.lit (0)) 76)) (.lit (1099511627776))) (.lit (256))) (.bin .rem (.bin .quo (.wrap .u64 (.cell 1000000 (.lit (0)) 58)) (.lit (1099511627776))) (.lit (256)))) (.and (.eqI (.bin .rem (.bin .quo (.wrap .u64 (.cell 1000000 (.lit (0)) 76)) (.lit (4294967296))) (.lit (256))) (.bin .rem (.bin .quo (.wrap .u64 (.cell 1000000 (.lit (0)) 58)) (.lit (4294967296))) (.lit (256)))) (.and (.eqI (.bin .rem (.bin .quo (.wrap .u64 (.cell 1000000 (.lit (0)) 76)) (.lit (16777216))) (.lit (256))) (.bin .rem (.bin .quo (.wrap .u64 (.cell 1000000 (.lit (0)) 58)) (.lit (16777216))) (.lit (256)))) (.and (.eqI (.bin .rem (.bin .quo (.wrap .u64 (.cell 1000000 (.lit (0)) 76)) (.lit (65536))) (.lit (256))) (.bin .rem (.bin .quo (.wrap .u64 (.cell 1000000 (.lit (0)) 58)) (.lit (65536))) (.lit (256)))) (.and (.eqI (.bin .rem (.bin .quo (.wrap .u64 (.cell 1000000 (.lit (0)) 76)) (.lit (256))) (.lit (256))) (.bin .rem (.bin .quo (.wrap .u64 (.cell 1000000 (.lit (0)) 58)) (.lit (256))) (.lit (256)))) (.eqI (.bin .rem (.wrap .u64 (.cell 1000000 (.lit (0)) 76)) (.lit (256))) (.bin .rem (.wrap .u64 (.cell 1000000 (.lit (0)) 58)) (.lit (256))))))))))
   (.node (.eqI (.bin .rem (.wrap .u16 (.cell 1000000 (.lit (0)) 77)) (.lit (4096))) (.bin .rem (.wrap .u16 (.cell 1000000 (.lit (0)) 59)) (.lit (4096))))
   .leaf
   .leaf)
   .leaf)
   (.node (.ltI (.wrap .u32 (.cell 1000000 (.lit (0)) 75)) (.wrap .u32 (.cell 1000000 (.lit (0)) 57)))
   .leaf
   (.node (.ltI (.wrap .u32 (.cell 1000000 (.lit (0)) 57)) (.wrap .u32 (.cell 1000000 (.lit (0)) 75)))
   (.node (.all 999983 (.lit (1)) (.and (.eqI (.bin .rem (.bin .quo (.wrap .u64 (.cell 1000000 (.lit (0)) 76)) (.lit (1099511627776))) (.lit (256))) (.bin .rem (.bin .quo (.wrap .u64 (.cell 1000000 (.lit (0)) 58)) (.lit (1099511627776))) (.lit (256)))) (.and (.eqI (.bin .rem (.bin .quo (.wrap .u64 (.cell 1000000 (.lit (0)) 76)) (.lit (4294967296))) (.lit (256))) (.bin .rem (.bin .quo (.wrap .u64 (.cell 1000000 (.lit (0)) 58)) (.lit (4294967296))) (.lit (256)))) (.and (.eqI (.bin .rem (.bin .quo (.wrap .u64 (.cell 1000000 (.lit (0)) 76)) (.lit (16777216))) (.lit (256))) (.bin .rem (.bin .quo (.wrap .u64 (.cell 1000000 (.lit (0)) 58)) (.lit (16777216))) (.lit (256)))) (.and (.eqI (.bin .rem (.bin .quo (.wrap .u64 (.cell 1000000 (.lit (0)) 76)) (.lit (65536))) (.lit (256))) (.bin .rem (.bin .quo (.wrap .u64 (.cell 1000000 (.lit (0)) 58)) (.lit (65536))) (.lit (256)))) (.and (.eqI (.bin .rem (.bin .quo (.wrap .u64 (.cell 1000000 (.lit (0)) 76)) (.lit (256))) (.lit (256))) (.bin .rem (.bin .quo (.wrap .u64 (.cell 1000000 (.lit (0)) 58)) (.lit (256))) (.lit (256)))) (.eqI (.bin .rem (.wrap .u64 (.cell 1000000 (.lit (0)) 76)) (.lit (256))) (.bin .rem (.wrap .u64 (.cell 1000000 (.lit (0)) 58)) (.lit (256))))))))))
   (.node (.eqI (.bin .rem (.wrap .u16 (.cell 1000000 (.lit (0)) 77)) (.lit (4096))) (.bin .rem (.wrap .u16 (.cell 1000000 (.lit (0)) 59)) (.lit (4096))))
   .leaf
   .leaf)
   .leaf)
   (.node (.ltI (.wrap .u64 (.cell 1000000 (.lit (0)) 76)) (.wrap .u64 (.cell 1000000 (.lit (0)) 58)))
   .leaf
   (.node (.ltI (.wrap .u64 (.cell 1000000 (.lit (0)) 58)) (.wrap .u64 (.cell 1000000 (.lit (0)) 76)))
   (.node (.all 999983 (.lit (1)) (.and (.eqI (.bin .rem (.bin .quo (.wrap .u64 (.cell 1000000 (.lit (0)) 76)) (.lit (1099511627776))) (.lit (256))) (.bin .rem (.bin .quo (.wrap .u64 (.cell 1000000 (.lit (0)) 58)) (.lit (1099511627776))) (.lit (256)))) (.and (.eqI (.bin .rem (.bin .quo (.wrap .u64 (.cell 1000000 (.lit (0)) 76)) (.lit (4294967296))) (.lit (256))) (.bin .rem (.bin .quo (.wrap .u64 (.cell 1000000 (.lit (0)) 58)) (.lit (4294967296))) (.lit (256)))) (.and (.eqI (.bin .rem (.bin .quo (.wrap .u64 (.cell 1000000 (.lit (0)) 76)) (.lit (16777216))) (.lit (256))) (.bin .rem (.bin .quo (.wrap .u64 (.cell 1000000 (.lit (0)) 58)) (.lit (16777216))) (.lit (256)))) (.and (.eqI (.bin .rem (.bin .quo (.wrap .u64 (.cell 1000000 (.lit (0)) 76)) (.lit (65536))) (.lit (256))) (.bin .rem (.bin .quo (.wrap .u64 (.cell 1000000 (.lit (0)) 58)) (.lit (65536))) (.lit (256)))) (.and (.eqI (.bin .rem (.bin .quo (.wrap .u64 (.cell 1000000 (.lit (0)) 76)) (.lit (256))) (.lit (256))) (.bin .rem (.bin .quo (.wrap .u64 (.cell 1000000 (.lit (0)) 58)) (.lit (256))) (.lit (256)))) (.eqI (.bin .rem (.wrap .u64 (.cell 1000000 (.lit (0)) 76)) (.lit (256))) (.bin .rem (.wrap .u64 (.cell 1000000 (.lit (0)) 58)) (.lit (256))))))))))
   (.node (.eqI (.bin .rem (.wrap .u16 (.cell 1000000 (.lit (0)) 77)) (.lit (4096))) (.bin .rem (.wrap .u16 (.cell 1000000 (.lit (0)) 59)) (.lit (4096))))
   .leaf
   .leaf)
   .leaf)
   (.node (.ltI (.wrap .u16 (.cell 1000000 (.lit (0)) 77)) (.wrap .u16 (.cell 1000000 (.lit (0)) 59)))
   .leaf
   (.node (.all 999983 (.lit (1)) (.and (.eqI (.bin .rem (.bin .quo (.wrap .u64 (.cell 1000000 (.lit (0)) 76)) (.lit (1099511627776))) (.lit (256))) (.bin .rem (.bin .quo (.wrap .u64 (.cell 1000000 (.lit (0)) 58)) (.lit (1099511627776))) (.lit (256)))) (.and (.eqI (.bin .rem (.bin .quo (.wrap .u64 (.cell 1000000 (.lit (0)) 76)) (.lit (4294967296))) (.lit (256))) (.bin .rem (.bin .quo (.wrap .u64 (.cell 1000000 (.lit (0)) 58)) (.lit (4294967296))) (.lit (256)))) (.and (.eqI (.bin .rem (.bin .quo (.wrap .u64 (.cell 1000000 (.lit (0)) 76)) (.lit (16777216))) (.lit (256))) (.bin .rem (.bin .quo (.wrap .u64 (.cell 1000000 (.lit (0)) 58)) (.lit (16777216))) (.lit (256)))) (.and (.eqI (.bin .rem (.bin .quo (.wrap .u64 (.cell 1000000 (.lit (0)) 76)) (.lit (65536))) (.lit (256))) (.bin .rem (.bin .quo (.wrap .u64 (.cell 1000000 (.lit (0)) 58)) (.lit (65536))) (.lit (256)))) (.and (.eqI (.bin .rem (.bin .quo (.wrap .u64 (.cell 1000000 (.lit (0)) 76)) (.lit (256))) (.lit (256))) (.bin .rem (.bin .quo (.wrap .u64 (.cell 1000000 (.lit (0)) 58)) (.lit (256))) (.lit (256)))) (.eqI (.bin .rem (.wrap .u64 (.cell 1000000 (.lit (0)) 76)) (.lit (256))) (.bin .rem (.wrap .u64 (.cell 1000000 (.lit (0)) 58)) (.lit (256))))))))))
   (.node (.eqI (.bin .rem (.wrap .u16 (.cell 1000000 (.lit (0)) 77)) (.lit (4096))) (.bin .rem (.wrap .u16 (.cell 1000000 (.lit (0)) 59)) (.lit (4096))))
   (.node (.eqI (.wrap .u16 (.cell 1000000 (.lit (0)) 77)) (.wrap .u16 (.cell 1000000 (.lit (0)) 59)))
   (.node (.all 999983 (.lit (1)) (.and (.eqI (.ite (.eqI (.bin .rem (.wrap .u16 (.cell 1000000 (.lit (0)) 78)) (.lit (256))) (.lit (0))) (.bin .quo (.wrap .u16 (.cell 1000000 (.lit (0)) 78)) (.lit (256))) (.bin .add (.bin .quo (.wrap .u16 (.cell 1000000 (.lit (0)) 78)) (.lit (256))) (.lit (1)))) (.cell 1000000 (.lit (0)) 68)) (.and (.eqI (.bin .quo (.wrap .u16 (.cell 1000000 (.lit (0)) 79)) (.lit (256))) (.cell 1000000 (.lit (0)) 69)) (.and (.eqI (.ite (.eqI (.bin .quo (.wrap .u16 (.cell 1000000 (.lit (0)) 80)) (.lit (256))) (.lit (0))) (.lit (1)) (.bin .quo (.wrap .u16 (.cell 1000000 (.lit (0)) 80)) (.lit (256)))) (.cell 1000000 (.lit (0)) 70)) (.eqI (.bin .quo (.wrap .u16 (.cell 1000000 (.lit (0)) 81)) (.lit (256))) (.cell 1000000 (.lit (0)) 71))))))
   (.node (.eqI (.cell 1000000 (.lit (0)) 44) (.lit (3)))
   .leaf
   .leaf)
   .leaf)
   .leaf)
   (.node (.all 999983 (.lit (1)) (.and (.eqI (.ite (.eqI (.bin .rem (.wrap .u16 (.cell 1000000 (.lit (0)) 78)) (.lit (256))) (.lit (0))) (.bin .quo (.wrap .u16 (.cell 1000000 (.lit (0)) 78)) (.lit (256))) (.bin .add (.bin .quo (.wrap .u16 (.cell 1000000 (.lit (0)) 78)) (.lit (256))) (.lit (1)))) (.cell 1000000 (.lit (0)) 68)) (.and (.eqI (.bin .quo (.wrap .u16 (.cell 1000000 (.lit (0)) 79)) (.lit (256))) (.cell 1000000 (.lit (0)) 69)) (.and (.eqI (.ite (.eqI (.bin .quo (.wrap .u16 (.cell 1000000 (.lit (0)) 80)) (.lit (256))) (.lit (0))) (.lit (1)) (.bin .quo (.wrap .u16 (.cell 1000000 (.lit (0)) 80)) (.lit (256)))) (.cell 1000000 (.lit (0)) 70)) (.eqI (.bin .quo (.wrap .u16 (.cell 1000000 (.lit (0)) 81)) (.lit (256))) (.cell 1000000 (.lit (0)) 71))))))
   (.node (.eqI (.cell 1000000 (.lit (0)) 44) (.lit (3)))
   (.node (.eqI (.wrap .u16 (.cell 1000000 (.lit (0)) 77)) (.wrap .u16 (.cell 1000000 (.lit (0)) 59)))
   .leaf
   .leaf)
   (.node (.eqI (.wrap .u16 (.cell 1000000 (.lit (0)) 77)) (.wrap .u16 (.cell 1000000 (.lit (0)) 59)))
   .leaf
   .leaf))
   (.node (.eqI (.wrap .u16 (.cell 1000000 (.lit (0)) 77)) (.wrap .u16 (.cell 1000000 (.lit (0)) 59)))
   .leaf
   .leaf)))
   (.node (.all 999983 (.lit (1)) (.and (.eqI (.ite (.eqI (.bin .rem (.wrap .u16 (.cell 1000000 (.lit (0)) 78)) (.lit (256))) (.lit (0))) (.bin .quo (.wrap .u16 (.cell 1000000 (.lit (0)) 78)) (.lit (256))) (.bin .add (.bin .quo (.wrap .u16 (.cell 1000000 (.lit (0)) 78)) (.lit (256))) (.lit (1)))) (.cell 1000000 (.lit (0)) 68)) (.and (.eqI (.bin .quo (.wrap .u16 (.cell 1000000 (.lit (0)) 79)) (.lit (256))) (.cell 1000000 (.lit (0)) 69)) (.and (.eqI (.ite (.eqI (.bin .quo (.wrap .u16 (.cell 1000000 (.lit (0)) 80)) (.lit (256))) (.lit (0))) (.lit (1)) (.bin .quo (.wrap .u16 (.cell 1000000 (.lit (0)) 80)) (.lit (256)))) (.cell 1000000 (.lit (0)) 70)) (.eqI (.bin .quo (.wrap .u16 (.cell 1000000 (.lit (0)) 81)) (.lit (256))) (.cell 1000000 (.lit (0)) 71))))))
   (.node (.eqI (.cell 1000000 (.lit (0)) 44) (.lit (3)))
   (.node (.eqI (.wrap .u16 (.cell 1000000 (.lit (0)) 77)) (.wrap .u16 (.cell 1000000 (.lit (0)) 59)))
   .leaf
   .leaf)
   (.node (.eqI (.wrap .u16 (.cell 1000000 (.lit (0)) 77)) (.wrap .u16 (.cell 1000000 (.lit (0)) 59)))
   .leaf
   .leaf))
   (.node (.eqI (.wrap .u16 (.cell 1000000 (.lit (0)) 77)) (.wrap .u16 (.cell 1000000 (.lit (0)) 59)))
   .leaf
   .leaf)))))))))))]
theorem infoNews_tree : splitOk cfg [49] infoNewsTree = true := by kernel_rfl
theorem infoNews_all : allLeaves infoNewsTree = infoNewsC1 ++ (infoNewsC2 ++ (infoNewsC3 ++ (infoNewsC4 ++ (infoNewsC5 ++ (infoNewsC6))))) := by kernel_rfl
theorem infoNews_leaves : ∀ x ∈ allLeaves infoNewsTree, leafGood cfg 3000 8 [49] x = true := by
  intro x hx
  rw [infoNews_all] at hx
  simp only [List.mem_append] at hx
  rcases hx with hx | hx | hx | hx | hx | hx
  · exact infoNews_part1 x hx
  · exact infoNews_part2 x hx
  · exact infoNews_part3 x hx
  · exact infoNews_part4 x hx
  · exact infoNews_part5 x hx
  · exact infoNews_part6 x hx
theorem infoNews_fn (H : Type) : ∀ ds : List (DataW H), ds.length = 1 → Rows.infoNewsSpec.fn H ds = { results := [.lit (.bool true)], args := ds }
  | [_], _ => rfl
set_option maxRecDepth 100000 in
theorem infoNews_lifted (os : Os) (started : os.Started) (H : Type) (enc : TypeId × Value → H) :
    ReturnsInHanded {} Try.checked os 8 .any (Rows.infoNewsSpec.pre6 enc Try.prog Try.f8 Rows.infoNewsRow.domain false) (Rows.infoNewsSpec.post enc Try.prog Try.f8 false true false false) := by
  refine returnsInHanded_of_change (C := Try.checked) Try.own started (by kernel_rfl) Try.func8
    (ChangeSpec.witness6 (enc := enc) (C := Try.checked) false ⟨#[], #[zeroV Try.prog 49], []⟩ 8 (by kernel_rfl) (by kernel_rfl) (by kernel_rfl) (by kernel_rfl)) ?_
  intro W base args ds gs before hval hW _ _
  have hA := hW.choose_spec.choose_spec.1
  refine (law_split_of cfg_prog cfg_types cfg_hooks infoNews_tree infoNews_leaves (us := Try.f8.params.toList) rfl (fun j t v h1 h2 => hval j t v (by rw [Array.getElem?_toList] at h1; exact h1) h2) hA).mono fun e W' ⟨he, hb⟩ => ?_
  exact ⟨_, he, law_post rfl rfl (by kernel_rfl) Try.laidOut (by kernel_rfl) (infoNews_fn H ds (trodAll_len hA)) hW hb⟩
set_option maxRecDepth 100000 in
theorem infoNews_holds : Rows.InfoNewsSaid :=
  OpenClaim.holds_of_wide 8 Try.f8 rfl rfl rfl rfl rfl rfl rfl ⟨rfl, rfl, rfl, rfl, rfl⟩ rfl rfl rfl rfl rfl (by kernel_rfl) Try.func8 (by kernel_rfl)
    (of_decide_eq_true (by kernel_rfl)) (by unfold Func.isWrapper; first | (rw [if_pos (by decide +kernel)]; kernel_rfl) | (rw [if_neg (by decide +kernel)]; exact ⟨rfl, rfl⟩))
    (fun os started H enc _ => infoNews_lifted os started H enc)
end Go.Proofs.Ytllkjhnmjhpbnaa
