/-
  Any bridge and port number: PortTicks returns true; a second later the ports are as the document says. Conditions: none.
-/
import Derived.Test.YthdecegmnleljaaRows
import Derived.ProofKit
import Derived.Test.YthdecegmnleljaaSXLeft
namespace Go.Proofs.Ythdecegmnleljaa
open Go.SX
theorem Try.own : ownKnob Try.prog.godebug = none := by kernel_rfl
theorem Try.laidOut : laidOutB Try.prog = true := by kernel_rfl
theorem Try.mixed : Try.prog.follows .mixedOrders = true := by kernel_rfl
noncomputable def cfg : Cfg := mkCfg Try.prog noHook (fun i => memB i [20, 59, 58, 16, 15, 25, 29, 44, 200059, 200058, 200020]) (fun i => memB i [66, 67, 74, 76, 77, 98]) (fun i => memB i [66]) (fun i => memB i [16, 23, 26, 28, 71, 36, 38, 39, 40, 41])
theorem cfg_prog : cfg.P = Try.checked.prog := by kernel_rfl
theorem cfg_types : cfg.Types := mkCfg_types _ _ _ _ _ _ Try.mixed
theorem cfg_hooks : ∀ ρ, HookOk cfg ρ := noHook_ok _ _ _ _ _
theorem portTicks_run : lawAll cfg 3000 6 [34, 3] = true := by kernel_rfl
theorem portTicks_fn (H : Type) : ∀ ds : List (DataW H), ds.length = 2 → Rows.portTicksSpec.fn H ds = { results := [.lit (.bool true)], args := ds }
  | [_, _], _ => rfl
set_option maxRecDepth 100000 in
theorem portTicks_lifted (os : Os) (started : os.Started) (H : Type) (enc : TypeId × Value → H) :
    ReturnsInHanded {} Try.checked os 6 .any (Rows.portTicksSpec.pre6 enc Try.prog Try.f6 Rows.portTicksRow.domain false) (Rows.portTicksSpec.post enc Try.prog Try.f6 false true false false) := by
  refine returnsInHanded_of_change (C := Try.checked) Try.own started (by kernel_rfl) Try.func6
    (ChangeSpec.witness6 (enc := enc) (C := Try.checked) false ⟨#[], #[zeroV Try.prog 34, zeroV Try.prog 3], []⟩ 8 (by kernel_rfl) (by kernel_rfl) (by kernel_rfl) (by kernel_rfl)) ?_
  intro W base args ds gs before hval hW _ _
  have hA := hW.choose_spec.choose_spec.1
  refine (law_all_of cfg_prog cfg_types cfg_hooks portTicks_run (us := Try.f6.params.toList) rfl (fun j t v h1 h2 => hval j t v (by rw [Array.getElem?_toList] at h1; exact h1) h2) hA).mono fun e W' ⟨he, hb⟩ => ?_
  exact ⟨_, he, law_post rfl rfl (by kernel_rfl) Try.laidOut (by kernel_rfl) (portTicks_fn H ds (trodAll_len hA)) hW hb⟩
set_option maxRecDepth 100000 in
theorem portTicks_holds : Rows.PortTicksSaid :=
  OpenClaim.holds_of_wide 6 Try.f6 rfl rfl rfl rfl rfl rfl rfl ⟨rfl, rfl, rfl, rfl, rfl⟩ rfl rfl rfl rfl rfl (by kernel_rfl) Try.func6 (by kernel_rfl)
    (of_decide_eq_true (by kernel_rfl)) (by unfold Func.isWrapper; first | (rw [if_pos (by decide +kernel)]; kernel_rfl) | (rw [if_neg (by decide +kernel)]; exact ⟨rfl, rfl⟩))
    (fun os started H enc _ => portTicks_lifted os started H enc)
end Go.Proofs.Ythdecegmnleljaa
