/-
  The law StateSteps returns true for every bridge and every index, and its arguments read as they did. Conditions: none.
-/
import Derived.Test.YthdecegmnleljaaRows
import Derived.ProofKit
import Derived.Test.YthdecegmnleljaaSXLaw
namespace Go.Proofs.Ythdecegmnleljaa
open Go.SX
theorem Try.own : ownKnob Try.prog.godebug = none := by kernel_rfl
theorem Try.laidOut : laidOutB Try.prog = true := by kernel_rfl
theorem Try.mixed : Try.prog.follows .mixedOrders = true := by kernel_rfl
noncomputable def cfg : Cfg := mkCfg Try.prog noHook (fun i => memB i [15, 16, 20, 58, 59]) (fun i => memB i []) (fun i => memB i []) (fun i => memB i [16, 23])
theorem cfg_types : cfg.Types := mkCfg_types _ _ _ _ _ _ Try.mixed
theorem cfg_hooks : ∀ ρ, HookOk cfg ρ := noHook_ok _ _ _ _ _
theorem stateSteps_run : lawAll cfg 5000 3 [34, 3] = true := by kernel_rfl
theorem stateSteps_fn (H : Type) : ∀ ds : List (DataW H), ds.length = 2 → Rows.stateStepsSpec.fn H ds = { results := [.lit (.bool true)], args := ds }
  | [_, _], _ => rfl
theorem stateSteps_lifted (os : Os) (started : os.Started) (H : Type) (enc : TypeId × Value → H) :
    ReturnsInHanded {} Try.checked os 3 .any (Rows.stateStepsSpec.pre6 enc Try.prog Try.f3 Rows.stateStepsRow.domain false) (Rows.stateStepsSpec.post enc Try.prog Try.f3 false true false false) := by
  refine returnsInHanded_of_change (C := Try.checked) Try.own started (by kernel_rfl) Try.func3
    (ChangeSpec.witness6 (enc := enc) (C := Try.checked) false ⟨#[], #[zeroV Try.prog 34, zeroV Try.prog 3], []⟩ 8 (by kernel_rfl) (by kernel_rfl) (by kernel_rfl) (by kernel_rfl)) ?_
  intro W base args ds gs before hval hW _ _
  have hA := hW.choose_spec.choose_spec.1
  refine (law_all (C := cfg) cfg_types cfg_hooks stateSteps_run (fun j t v h1 h2 => hval j t v (by rw [← Array.getElem?_toList]; exact h1) h2) hA).mono fun e W' ⟨he, hb⟩ => ?_
  exact ⟨_, he, law_post rfl rfl (by kernel_rfl) Try.laidOut (by kernel_rfl) (stateSteps_fn H ds (trodAll_len hA)) hW hb⟩
theorem stateSteps_holds : Rows.StateStepsSaid :=
  OpenClaim.holds_of_wide 3 Try.f3 rfl rfl rfl rfl rfl rfl rfl ⟨rfl, rfl, rfl, rfl, rfl⟩ rfl rfl rfl rfl rfl (by kernel_rfl) Try.func3 (by kernel_rfl)
    (of_decide_eq_true (by kernel_rfl)) (by unfold Func.isWrapper; first | (rw [if_pos (by decide +kernel)]; kernel_rfl) | (rw [if_neg (by decide +kernel)]; exact ⟨rfl, rfl⟩))
    (fun os started H enc _ => stateSteps_lifted os started H enc)
end Go.Proofs.Ythdecegmnleljaa
