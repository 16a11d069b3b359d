/-
  The law StateFollows returns true for every port, and its argument reads as it did. Conditions: none.
-/
import Derived.Test.YthdecegmnleljaaRows
import Derived.ProofKit
import Derived.Test.YthdecegmnleljaaSXLaw
namespace Go.Proofs.Ythdecegmnleljaa
open Go.SX
theorem Try.own : ownKnob Try.prog.godebug = none := by kernel_rfl
theorem Try.laidOut : laidOutB Try.prog = true := by kernel_rfl
theorem Try.mixed : Try.prog.follows .mixedOrders = true := by kernel_rfl
noncomputable def cfg : Cfg := mkCfg Try.prog noHook (fun i => memB i [15, 20, 58, 59, 25, 29, 44, 16, 23])
theorem cfg_types : cfg.Types := mkCfg_types _ _ _ Try.mixed
theorem cfg_hooks : ∀ ρ, HookOk cfg ρ := noHook_ok _ _
theorem stateFollows_run : lawAll cfg 100000 4 [48] = true := by kernel_rfl
theorem stateFollows_fn (H : Type) : ∀ ds : List (DataW H), ds.length = 1 → Rows.stateFollowsSpec.fn H ds = { results := [.lit (.bool true)], args := ds }
  | [_], _ => rfl
theorem stateFollows_lifted (os : Os) (started : os.Started) (H : Type) (enc : TypeId × Value → H) :
    ReturnsInHanded {} Try.checked os 4 .any (Rows.stateFollowsSpec.pre6 enc Try.prog Try.f4 Rows.stateFollowsRow.domain false) (Rows.stateFollowsSpec.post enc Try.prog Try.f4 false true false false) := by
  refine returnsInHanded_of_change (C := Try.checked) Try.own started (by kernel_rfl) Try.func4
    (ChangeSpec.witness6 (enc := enc) (C := Try.checked) false ⟨#[], #[zeroV Try.prog 48], []⟩ 8 (by kernel_rfl) (by kernel_rfl) (by kernel_rfl) (by kernel_rfl)) ?_
  intro W base args ds gs before hval hW _ _
  have hA := hW.choose_spec.choose_spec.1
  refine (law_all (C := cfg) cfg_types cfg_hooks stateFollows_run (fun j t v h1 h2 => hval j t v (by rw [← Array.getElem?_toList]; exact h1) h2) hA).mono fun e W' ⟨he, hb⟩ => ?_
  exact ⟨_, he, law_post rfl rfl (by kernel_rfl) Try.laidOut (by kernel_rfl) (stateFollows_fn H ds (trodAll_len hA)) hW hb⟩
theorem stateFollows_holds : Rows.StateFollowsSaid :=
  OpenClaim.holds_of_wide 4 Try.f4 rfl rfl rfl rfl rfl rfl rfl ⟨rfl, rfl, rfl, rfl, rfl⟩ rfl rfl rfl rfl rfl (by kernel_rfl) Try.func4 (by kernel_rfl)
    (of_decide_eq_true (by kernel_rfl)) (by unfold Func.isWrapper; first | (rw [if_pos (by decide +kernel)]; kernel_rfl) | (rw [if_neg (by decide +kernel)]; exact ⟨rfl, rfl⟩))
    (fun os started H enc _ => stateFollows_lifted os started H enc)
end Go.Proofs.Ythdecegmnleljaa
