/-
  The law VectorOrder (any three vectors: which is better, as the document says, and as an order should; whether two are from one place, and one is to be taken in another one's) returns true for every input, and its arguments read as they did. Conditions: none.
-/
import Derived.Test.YtpkfeinnhdnfiaaVectorOrder1
import Derived.Test.YtpkfeinnhdnfiaaVectorOrder2
import Derived.Test.YtpkfeinnhdnfiaaVectorOrder3
import Derived.Test.YtpkfeinnhdnfiaaVectorOrder4
import Derived.Test.YtpkfeinnhdnfiaaVectorOrder5
import Derived.Test.YtpkfeinnhdnfiaaVectorOrder6
import Derived.Test.YtpkfeinnhdnfiaaVectorOrder7
import Derived.Test.YtpkfeinnhdnfiaaVectorOrder8
import Derived.Test.YtpkfeinnhdnfiaaVectorOrder9
import Derived.Test.YtpkfeinnhdnfiaaVectorOrder10
import Derived.Test.YtpkfeinnhdnfiaaVectorOrder11
import Derived.Test.YtpkfeinnhdnfiaaVectorOrder12
import Derived.Test.YtpkfeinnhdnfiaaVectorOrder13
import Derived.Test.YtpkfeinnhdnfiaaVectorOrder14
import Derived.Test.YtpkfeinnhdnfiaaVectorOrder15
import Derived.Test.YtpkfeinnhdnfiaaVectorOrder16
import Derived.Test.YtpkfeinnhdnfiaaVectorOrder17
import Derived.Test.YtpkfeinnhdnfiaaVectorOrder18
import Derived.Test.YtpkfeinnhdnfiaaVectorOrder19
import Derived.Test.YtpkfeinnhdnfiaaVectorOrder20
namespace Go.Proofs.Ytpkfeinnhdnfiaa
open Go.SX
def vectorOrderTree : List (List Bool × Sp) :=
  [([], (.node (.ltI (.wrap .u16 (.cell 1000000 (.lit (0)) 3)) (.wrap .u16 (.cell 1000000 (.lit (0)) 7)))
   (.node (.ltI (.wrap .u32 (.cell 1000000 (.lit (0)) 1)) (.wrap .u32 (.cell 1000000 (.lit (0)) 5)))
   (.node (.ltI (.wrap .u64 (.cell 1000000 (.lit (0)) 0)) (.wrap .u64 (.cell 1000000 (.lit (0)) 4)))
   (.node (.ltI (.wrap .u16 (.cell 1000000 (.lit (0)) 7)) (.wrap .u16 (.cell 1000000 (.lit (0)) 11)))
   (.node (.ltI (.wrap .u32 (.cell 1000000 (.lit (0)) 5)) (.wrap .u32 (.cell 1000000 (.lit (0)) 9)))
   .leaf
   (.node (.ltI (.wrap .u64 (.cell 1000000 (.lit (0)) 4)) (.wrap .u64 (.cell 1000000 (.lit (0)) 8)))
   .leaf
   .leaf))
   (.node (.ltI (.wrap .u32 (.cell 1000000 (.lit (0)) 5)) (.wrap .u32 (.cell 1000000 (.lit (0)) 9)))
   .leaf
   (.node (.ltI (.wrap .u64 (.cell 1000000 (.lit (0)) 4)) (.wrap .u64 (.cell 1000000 (.lit (0)) 8)))
   .leaf
   (.node (.ltI (.wrap .u64 (.cell 1000000 (.lit (0)) 6)) (.wrap .u64 (.cell 1000000 (.lit (0)) 10)))
   .leaf
   .leaf))))
   (.node (.eqI (.wrap .u64 (.cell 1000000 (.lit (0)) 0)) (.wrap .u64 (.cell 1000000 (.lit (0)) 4)))
   (.node (.ltI (.wrap .u16 (.cell 1000000 (.lit (0)) 7)) (.wrap .u16 (.cell 1000000 (.lit (0)) 11)))
   (.node (.ltI (.wrap .u32 (.cell 1000000 (.lit (0)) 5)) (.wrap .u32 (.cell 1000000 (.lit (0)) 9)))
   .leaf
   (.node (.ltI (.wrap .u64 (.cell 1000000 (.lit (0)) 4)) (.wrap .u64 (.cell 1000000 (.lit (0)) 8)))
   .leaf
   .leaf))
   (.node (.ltI (.wrap .u32 (.cell 1000000 (.lit (0)) 5)) (.wrap .u32 (.cell 1000000 (.lit (0)) 9)))
   .leaf
   (.node (.ltI (.wrap .u64 (.cell 1000000 (.lit (0)) 4)) (.wrap .u64 (.cell 1000000 (.lit (0)) 8)))
   .leaf
   (.node (.ltI (.wrap .u64 (.cell 1000000 (.lit (0)) 6)) (.wrap .u64 (.cell 1000000 (.lit (0)) 10)))
   .leaf
   .leaf))))
   .leaf))
   (.node (.ltI (.wrap .u64 (.cell 1000000 (.lit (0)) 0)) (.wrap .u64 (.cell 1000000 (.lit (0)) 4)))
   (.node (.ltI (.wrap .u16 (.cell 1000000 (.lit (0)) 7)) (.wrap .u16 (.cell 1000000 (.lit (0)) 11)))
   (.node (.ltI (.wrap .u32 (.cell 1000000 (.lit (0)) 5)) (.wrap .u32 (.cell 1000000 (.lit (0)) 9)))
   .leaf
   (.node (.ltI (.wrap .u64 (.cell 1000000 (.lit (0)) 4)) (.wrap .u64 (.cell 1000000 (.lit (0)) 8)))
   .leaf
   .leaf))
   (.node (.ltI (.wrap .u32 (.cell 1000000 (.lit (0)) 5)) (.wrap .u32 (.cell 1000000 (.lit (0)) 9)))
   .leaf
   (.node (.ltI (.wrap .u64 (.cell 1000000 (.lit (0)) 4)) (.wrap .u64 (.cell 1000000 (.lit (0)) 8)))
   .leaf
   (.node (.ltI (.wrap .u64 (.cell 1000000 (.lit (0)) 6)) (.wrap .u64 (.cell 1000000 (.lit (0)) 10)))
   .leaf
   .leaf))))
   (.node (.eqI (.wrap .u64 (.cell 1000000 (.lit (0)) 0)) (.wrap .u64 (.cell 1000000 (.lit (0)) 4)))
   (.node (.eqI (.wrap .u32 (.cell 1000000 (.lit (0)) 1)) (.wrap .u32 (.cell 1000000 (.lit (0)) 5)))
   (.node (.ltI (.wrap .u64 (.cell 1000000 (.lit (0)) 2)) (.wrap .u64 (.cell 1000000 (.lit (0)) 6)))
   (.node (.ltI (.wrap .u16 (.cell 1000000 (.lit (0)) 7)) (.wrap .u16 (.cell 1000000 (.lit (0)) 11)))
   (.node (.ltI (.wrap .u32 (.cell 1000000 (.lit (0)) 5)) (.wrap .u32 (.cell 1000000 (.lit (0)) 9)))
   .leaf
   (.node (.ltI (.wrap .u64 (.cell 1000000 (.lit (0)) 4)) (.wrap .u64 (.cell 1000000 (.lit (0)) 8)))
   .leaf
   .leaf))
   (.node (.ltI (.wrap .u32 (.cell 1000000 (.lit (0)) 5)) (.wrap .u32 (.cell 1000000 (.lit (0)) 9)))
   .leaf
   (.node (.ltI (.wrap .u64 (.cell 1000000 (.lit (0)) 4)) (.wrap .u64 (.cell 1000000 (.lit (0)) 8)))
   .leaf
   (.node (.ltI (.wrap .u64 (.cell 1000000 (.lit (0)) 6)) (.wrap .u64 (.cell 1000000 (.lit (0)) 10)))
   .leaf
   .leaf))))
   (.node (.eqI (.wrap .u64 (.cell 1000000 (.lit (0)) 2)) (.wrap .u64 (.cell 1000000 (.lit (0)) 6)))
   (.node (.ltI (.wrap .u16 (.cell 1000000 (.lit (0)) 7)) (.wrap .u16 (.cell 1000000 (.lit (0)) 11)))
   (.node (.ltI (.wrap .u32 (.cell 1000000 (.lit (0)) 5)) (.wrap .u32 (.cell 1000000 (.lit (0)) 9)))
   .leaf
   (.node (.ltI (.wrap .u64 (.cell 1000000 (.lit (0)) 4)) (.wrap .u64 (.cell 1000000 (.lit (0)) 8)))
   .leaf
   .leaf))
   (.node (.ltI (.wrap .u32 (.cell 1000000 (.lit (0)) 5)) (.wrap .u32 (.cell 1000000 (.lit (0)) 9)))
   .leaf
   (.node (.ltI (.wrap .u64 (.cell 1000000 (.lit (0)) 4)) (.wrap .u64 (.cell 1000000 (.lit (0)) 8)))
   .leaf
   (.node (.ltI (.wrap .u64 (.cell 1000000 (.lit (0)) 6)) (.wrap .u64 (.cell 1000000 (.lit (0)) 10)))
   .leaf
   .leaf))))
   .leaf))
   .leaf)
   .leaf)))
   (.node (.ltI (.wrap .u32 (.cell 1000000 (.lit (0)) 1)) (.wrap .u32 (.cell 1000000 (.lit (0)) 5)))
   (.node (.ltI (.wrap .u64 (.cell 1000000 (.lit (0)) 0)) (.wrap .u64 (.cell 1000000 (.lit (0)) 4)))
   (.node (.ltI (.wrap .u16 (.cell 1000000 (.lit (0)) 7)) (.wrap .u16 (.cell 1000000 (.lit (0)) 11)))
   (.node (.ltI (.wrap .u32 (.cell 1000000 (.lit (0)) 5)) (.wrap .u32 (.cell 1000000 (.lit (0)) 9)))
   .leaf
   (.node (.ltI (.wrap .u64 (.cell 1000000 (.lit (0)) 4)) (.wrap .u64 (.cell 1000000 (.lit (0)) 8)))
   .leaf
   .leaf))
   (.node (.ltI (.wrap .u32 (.cell 1000000 (.lit (0)) 5)) (.wrap .u32 (.cell 1000000 (.lit (0)) 9)))
   .leaf
   (.node (.ltI (.wrap .u64 (.cell 1000000 (.lit (0)) 4)) (.wrap .u64 (.cell 1000000 (.lit (0)) 8)))
   .leaf
   (.node (.ltI (.wrap .u64 (.cell 1000000 (.lit (0)) 6)) (.wrap .u64 (.cell 1000000 (.lit (0)) 10)))
   .leaf
   .leaf))))
   (.node (.eqI (.wrap .u64 (.cell 1000000 (.lit (0)) 0)) (.wrap .u64 (.cell 1000000 (.lit (0)) 4)))
   (.node (.ltI (.wrap .u16 (.cell 1000000 (.lit (0)) 7)) (.wrap .u16 (.cell 1000000 (.lit (0)) 11)))
   (.node (.ltI (.wrap .u32 (.cell 1000000 (.lit (0)) 5)) (.wrap .u32 (.cell 1000000 (.lit (0)) 9)))
   .leaf
   (.node (.ltI (.wrap .u64 (.cell 1000000 (.lit (0)) 4)) (.wrap .u64 (.cell 1000000 (.lit (0)) 8)))
   .leaf
   .leaf))
   (.node (.ltI (.wrap .u32 (.cell 1000000 (.lit (0)) 5)) (.wrap .u32 (.cell 1000000 (.lit (0)) 9)))
   .leaf
   (.node (.ltI (.wrap .u64 (.cell 1000000 (.lit (0)) 4)) (.wrap .u64 (.cell 1000000 (.lit (0)) 8)))
   .leaf
   (.node (.ltI (.wrap .u64 (.cell 1000000 (.lit (0)) 6)) (.wrap .u64 (.cell 1000000 (.lit (0)) 10)))
   .leaf
   .leaf))))
   .leaf))
   (.node (.ltI (.wrap .u64 (.cell 1000000 (.lit (0)) 0)) (.wrap .u64 (.cell 1000000 (.lit (0)) 4)))
   (.node (.ltI (.wrap .u16 (.cell 1000000 (.lit (0)) 7)) (.wrap .u16 (.cell 1000000 (.lit (0)) 11)))
   (.node (.ltI (.wrap .u32 (.cell 1000000 (.lit (0)) 5)) (.wrap .u32 (.cell 1000000 (.lit (0)) 9)))
   .leaf
   (.node (.ltI (.wrap .u64 (.cell 1000000 (.lit (0)) 4)) (.wrap .u64 (.cell 1000000 (.lit (0)) 8)))
   .leaf
   .leaf))
   (.node (.ltI (.wrap .u32 (.cell 1000000 (.lit (0)) 5)) (.wrap .u32 (.cell 1000000 (.lit (0)) 9)))
   .leaf
   (.node (.ltI (.wrap .u64 (.cell 1000000 (.lit (0)) 4)) (.wrap .u64 (.cell 1000000 (.lit (0)) 8)))
   .leaf
   (.node (.ltI (.wrap .u64 (.cell 1000000 (.lit (0)) 6)) (.wrap .u64 (.cell 1000000 (.lit (0)) 10)))
   .leaf
   .leaf))))
   (.node (.ltI (.wrap .u64 (.cell 1000000 (.lit (0)) 2)) (.wrap .u64 (.cell 1000000 (.lit (0)) 6)))
   (.node (.eqI (.wrap .u64 (.cell 1000000 (.lit (0)) 0)) (.wrap .u64 (.cell 1000000 (.lit (0)) 4)))
   (.node (.eqI (.wrap .u32 (.cell 1000000 (.lit (0)) 1)) (.wrap .u32 (.cell 1000000 (.lit (0)) 5)))
   (.node (.ltI (.wrap .u16 (.cell 1000000 (.lit (0)) 7)) (.wrap .u16 (.cell 1000000 (.lit (0)) 11)))
   (.node (.ltI (.wrap .u32 (.cell 1000000 (.lit (0)) 5)) (.wrap .u32 (.cell 1000000 (.lit (0)) 9)))
   .leaf
   (.node (.ltI (.wrap .u64 (.cell 1000000 (.lit (0)) 4)) (.wrap .u64 (.cell 1000000 (.lit (0)) 8)))
   .leaf
   .leaf))
   (.node (.ltI (.wrap .u32 (.cell 1000000 (.lit (0)) 5)) (.wrap .u32 (.cell 1000000 (.lit (0)) 9)))
   .leaf
   (.node (.ltI (.wrap .u64 (.cell 1000000 (.lit (0)) 4)) (.wrap .u64 (.cell 1000000 (.lit (0)) 8)))
   .leaf
   (.node (.ltI (.wrap .u64 (.cell 1000000 (.lit (0)) 6)) (.wrap .u64 (.cell 1000000 (.lit (0)) 10)))
   .leaf
   .leaf))))
   .leaf)
   .leaf)
   (.node (.eqI (.wrap .u64 (.cell 1000000 (.lit (0)) 2)) (.wrap .u64 (.cell 1000000 (.lit (0)) 6)))
   (.node (.eqI (.wrap .u64 (.cell 1000000 (.lit (0)) 0)) (.wrap .u64 (.cell 1000000 (.lit (0)) 4)))
   (.node (.eqI (.wrap .u32 (.cell 1000000 (.lit (0)) 1)) (.wrap .u32 (.cell 1000000 (.lit (0)) 5)))
   (.node (.eqI (.wrap .u16 (.cell 1000000 (.lit (0)) 3)) (.wrap .u16 (.cell 1000000 (.lit (0)) 7)))
   (.node (.ltI (.wrap .u16 (.cell 1000000 (.lit (0)) 7)) (.wrap .u16 (.cell 1000000 (.lit (0)) 11)))
   (.node (.ltI (.wrap .u32 (.cell 1000000 (.lit (0)) 5)) (.wrap .u32 (.cell 1000000 (.lit (0)) 9)))
   (.node (.ltI (.wrap .u64 (.cell 1000000 (.lit (0)) 4)) (.wrap .u64 (.cell 1000000 (.lit (0)) 8)))
   .leaf
   (.node (.eqI (.wrap .u64 (.cell 1000000 (.lit (0)) 4)) (.wrap .u64 (.cell 1000000 (.lit (0)) 8)))
   .leaf
   .leaf))
   (.node (.ltI (.wrap .u64 (.cell 1000000 (.lit (0)) 4)) (.wrap .u64 (.cell 1000000 (.lit (0)) 8)))
   .leaf
   (.node (.ltI (.wrap .u64 (.cell 1000000 (.lit (0)) 6)) (.wrap .u64 (.cell 1000000 (.lit (0)) 10)))
   (.node (.eqI (.wrap .u64 (.cell 1000000 (.lit (0)) 4)) (.wrap .u64 (.cell 1000000 (.lit (0)) 8)))
   (.node (.eqI (.wrap .u32 (.cell 1000000 (.lit (0)) 5)) (.wrap .u32 (.cell 1000000 (.lit (0)) 9)))
   .leaf
   .leaf)
   .leaf)
   (.node (.eqI (.wrap .u64 (.cell 1000000 (.lit (0)) 6)) (.wrap .u64 (.cell 1000000 (.lit (0)) 10)))
   (.node (.eqI (.wrap .u64 (.cell 1000000 (.lit (0)) 4)) (.wrap .u64 (.cell 1000000 (.lit (0)) 8)))
   (.node (.eqI (.wrap .u32 (.cell 1000000 (.lit (0)) 5)) (.wrap .u32 (.cell 1000000 (.lit (0)) 9)))
   .leaf
   .leaf)
   .leaf)
   .leaf))))
   (.node (.ltI (.wrap .u32 (.cell 1000000 (.lit (0)) 5)) (.wrap .u32 (.cell 1000000 (.lit (0)) 9)))
   (.node (.ltI (.wrap .u64 (.cell 1000000 (.lit (0)) 4)) (.wrap .u64 (.cell 1000000 (.lit (0)) 8)))
   .leaf
   (.node (.eqI (.wrap .u64 (.cell 1000000 (.lit (0)) 4)) (.wrap .u64 (.cell 1000000 (.lit (0)) 8)))
   .leaf
   .leaf))
   (.node (.ltI (.wrap .u64 (.cell 1000000 (.lit (0)) 4)) (.wrap .u64 (.cell 1000000 (.lit (0)) 8)))
   .leaf
   (.node (.ltI (.wrap .u64 (.cell 1000000 (.lit (0)) 6)) (.wrap .u64 (.cell 1000000 (.lit (0)) 10)))
   (.node (.eqI (.wrap .u64 (.cell 1000000 (.lit (0)) 4)) (.wrap .u64 (.cell 1000000 (.lit (0)) 8)))
   (.node (.eqI (.wrap .u32 (.cell 1000000 (.lit (0)) 5)) (.wrap .u32 (.cell 1000000 (.lit (0)) 9)))
   .leaf
   .leaf)
   .leaf)
   (.node (.eqI (.wrap .u64 (.cell 1000000 (.lit (0)) 6)) (.wrap .u64 (.cell 1000000 (.lit (0)) 10)))
   (.node (.eqI (.wrap .u64 (.cell 1000000 (.lit (0)) 4)) (.wrap .u64 (.cell 1000000 (.lit (0)) 8)))
   (.node (.eqI (.wrap .u32 (.cell 1000000 (.lit (0)) 5)) (.wrap .u32 (.cell 1000000 (.lit (0)) 9)))
   (.node (.eqI (.wrap .u16 (.cell 1000000 (.lit (0)) 7)) (.wrap .u16 (.cell 1000000 (.lit (0)) 11)))
   .leaf
   .leaf)
   .leaf)
   .leaf)
   .leaf)))))
   .leaf)
   .leaf)
   .leaf)
   .leaf))))))]
theorem vectorOrder_tree : splitOk cfg [45, 45, 45] vectorOrderTree = true := by kernel_rfl
theorem vectorOrder_all : allLeaves vectorOrderTree = vectorOrderC1 ++ (vectorOrderC2 ++ (vectorOrderC3 ++ (vectorOrderC4 ++ (vectorOrderC5 ++ (vectorOrderC6 ++ (vectorOrderC7 ++ (vectorOrderC8 ++ (vectorOrderC9 ++ (vectorOrderC10 ++ (vectorOrderC11 ++ (vectorOrderC12 ++ (vectorOrderC13 ++ (vectorOrderC14 ++ (vectorOrderC15 ++ (vectorOrderC16 ++ (vectorOrderC17 ++ (vectorOrderC18 ++ (vectorOrderC19 ++ (vectorOrderC20))))))))))))))))))) := by kernel_rfl
theorem vectorOrder_leaves : ∀ x ∈ allLeaves vectorOrderTree, leafGood cfg 3000 8 [45, 45, 45] x = true := by
  intro x hx
  rw [vectorOrder_all] at hx
  simp only [List.mem_append] at hx
  rcases hx with hx | hx | hx | hx | hx | hx | hx | hx | hx | hx | hx | hx | hx | hx | hx | hx | hx | hx | hx | hx
  · exact vectorOrder_part1 x hx
  · exact vectorOrder_part2 x hx
  · exact vectorOrder_part3 x hx
  · exact vectorOrder_part4 x hx
  · exact vectorOrder_part5 x hx
  · exact vectorOrder_part6 x hx
  · exact vectorOrder_part7 x hx
  · exact vectorOrder_part8 x hx
  · exact vectorOrder_part9 x hx
  · exact vectorOrder_part10 x hx
  · exact vectorOrder_part11 x hx
  · exact vectorOrder_part12 x hx
  · exact vectorOrder_part13 x hx
  · exact vectorOrder_part14 x hx
  · exact vectorOrder_part15 x hx
  · exact vectorOrder_part16 x hx
  · exact vectorOrder_part17 x hx
  · exact vectorOrder_part18 x hx
  · exact vectorOrder_part19 x hx
  · exact vectorOrder_part20 x hx
theorem vectorOrder_fn (H : Type) : ∀ ds : List (DataW H), ds.length = 3 → Rows.vectorOrderSpec.fn H ds = { results := [.lit (.bool true)], args := ds }
  | [_, _, _], _ => rfl
set_option maxRecDepth 100000 in
theorem vectorOrder_lifted (os : Os) (started : os.Started) (H : Type) (enc : TypeId × Value → H) :
    ReturnsInHanded {} Try.checked os 8 .any (Rows.vectorOrderSpec.pre6 enc Try.prog Try.f8 Rows.vectorOrderRow.domain false) (Rows.vectorOrderSpec.post enc Try.prog Try.f8 false true false false) := by
  refine returnsInHanded_of_change (C := Try.checked) Try.own started (by kernel_rfl) Try.func8
    (ChangeSpec.witness6 (enc := enc) (C := Try.checked) false ⟨#[], #[zeroV Try.prog 45, zeroV Try.prog 45, zeroV Try.prog 45], []⟩ 8 (by kernel_rfl) (by kernel_rfl) (by kernel_rfl) (by kernel_rfl)) ?_
  intro W base args ds gs before hval hW _ _
  have hA := hW.choose_spec.choose_spec.1
  refine (law_split_of cfg_prog cfg_types cfg_hooks vectorOrder_tree vectorOrder_leaves (us := Try.f8.params.toList) rfl (fun j t v h1 h2 => hval j t v (by rw [Array.getElem?_toList] at h1; exact h1) h2) hA).mono fun e W' ⟨he, hb⟩ => ?_
  exact ⟨_, he, law_post rfl rfl (by kernel_rfl) Try.laidOut (by kernel_rfl) (vectorOrder_fn H ds (trodAll_len hA)) hW hb⟩
set_option maxRecDepth 100000 in
theorem vectorOrder_holds : Rows.VectorOrderSaid :=
  OpenClaim.holds_of_wide 8 Try.f8 rfl rfl rfl rfl rfl rfl rfl ⟨rfl, rfl, rfl, rfl, rfl⟩ rfl rfl rfl rfl rfl (by kernel_rfl) Try.func8 (by kernel_rfl)
    (of_decide_eq_true (by kernel_rfl)) (by unfold Func.isWrapper; first | (rw [if_pos (by decide +kernel)]; kernel_rfl) | (rw [if_neg (by decide +kernel)]; exact ⟨rfl, rfl⟩))
    (fun os started H enc _ => vectorOrder_lifted os started H enc)
end Go.Proofs.Ytpkfeinnhdnfiaa
