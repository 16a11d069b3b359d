/-
  Every three times, and every age: TimesChecks returns true; what the times' check answers is what the document answers. Conditions: none.
-/
import Derived.Test.YtpkfeinnhdnfiaaRows
import Derived.ProofKit
import Derived.Test.YtpkfeinnhdnfiaaSXLeft
namespace Go.Proofs.Ytpkfeinnhdnfiaa
open Go.SX
theorem Try.own : ownKnob Try.prog.godebug = none := by kernel_rfl
theorem Try.laidOut : laidOutB Try.prog = true := by kernel_rfl
theorem Try.mixed : Try.prog.follows .mixedOrders = true := by kernel_rfl
noncomputable def cfg : Cfg := mkCfg Try.prog noHook (fun i => memB i []) (fun i => memB i []) (fun i => memB i []) (fun i => memB i [])
theorem cfg_prog : cfg.P = Try.checked.prog := by kernel_rfl
theorem cfg_types : cfg.Types := mkCfg_types _ _ _ _ _ _ Try.mixed
theorem cfg_hooks : ∀ ρ, HookOk cfg ρ := noHook_ok _ _ _ _ _
def timesChecksLeft : List (List SV × List (PC × B)) :=
  [([.int .i64 (.cell 1000000 (.lit (0)) 0), .int .i64 (.cell 1000000 (.lit (0)) 1), .int .i64 (.cell 1000000 (.lit (0)) 2), .int .i64 (.cell 1000000 (.lit (0)) 3)],
   [([((.ltI (.cell 1000000 (.lit (0)) 1) (.wrap .i64 (.bin .mul (.lit (2)) (.wrap .i64 (.bin .add (.cell 1000000 (.lit (0)) 2) (.lit (1))))))), false), ((.ltI (.wrap .i64 (.bin .mul (.lit (2)) (.wrap .i64 (.bin .sub (.cell 1000000 (.lit (0)) 3) (.lit (1)))))) (.cell 1000000 (.lit (0)) 1)), false), ((.ltI (.wrap .i64 (.bin .sub (.wrap .i64 (.bin .mul (.lit (2)) (.cell 1000000 (.lit (0)) 3))) (.lit (2)))) (.cell 1000000 (.lit (0)) 1)), true), ((.ltI (.lit (30)) (.cell 1000000 (.lit (0)) 3)), false), ((.ltI (.cell 1000000 (.lit (0)) 3) (.lit (4))), false), ((.ltI (.lit (2)) (.cell 1000000 (.lit (0)) 2)), false), ((.ltI (.cell 1000000 (.lit (0)) 2) (.lit (1))), false), ((.ltI (.lit (40)) (.cell 1000000 (.lit (0)) 1)), false), ((.ltI (.cell 1000000 (.lit (0)) 1) (.lit (6))), false), ((.eqI (.cell 1000000 (.lit (0)) 0) (.lit (0))), true)], (.lit false)),
    ([((.ltI (.cell 1000000 (.lit (0)) 1) (.wrap .i64 (.bin .mul (.lit (2)) (.wrap .i64 (.bin .add (.cell 1000000 (.lit (0)) 2) (.lit (1))))))), false), ((.ltI (.wrap .i64 (.bin .mul (.lit (2)) (.wrap .i64 (.bin .sub (.cell 1000000 (.lit (0)) 3) (.lit (1)))))) (.cell 1000000 (.lit (0)) 1)), false), ((.ltI (.cell 1000000 (.lit (0)) 1) (.wrap .i64 (.bin .add (.wrap .i64 (.bin .mul (.lit (2)) (.cell 1000000 (.lit (0)) 2))) (.lit (2))))), true), ((.ltI (.wrap .i64 (.bin .sub (.wrap .i64 (.bin .mul (.lit (2)) (.cell 1000000 (.lit (0)) 3))) (.lit (2)))) (.cell 1000000 (.lit (0)) 1)), false), ((.ltI (.lit (30)) (.cell 1000000 (.lit (0)) 3)), false), ((.ltI (.cell 1000000 (.lit (0)) 3) (.lit (4))), false), ((.ltI (.lit (2)) (.cell 1000000 (.lit (0)) 2)), false), ((.ltI (.cell 1000000 (.lit (0)) 2) (.lit (1))), false), ((.ltI (.lit (40)) (.cell 1000000 (.lit (0)) 1)), false), ((.ltI (.cell 1000000 (.lit (0)) 1) (.lit (6))), false), ((.eqI (.cell 1000000 (.lit (0)) 0) (.lit (0))), true)], (.lit false)),
    ([((.ltI (.wrap .i64 (.bin .mul (.lit (2)) (.wrap .i64 (.bin .sub (.cell 1000000 (.lit (0)) 3) (.lit (1)))))) (.cell 1000000 (.lit (0)) 1)), true), ((.ltI (.cell 1000000 (.lit (0)) 1) (.wrap .i64 (.bin .add (.wrap .i64 (.bin .mul (.lit (2)) (.cell 1000000 (.lit (0)) 2))) (.lit (2))))), false), ((.ltI (.wrap .i64 (.bin .sub (.wrap .i64 (.bin .mul (.lit (2)) (.cell 1000000 (.lit (0)) 3))) (.lit (2)))) (.cell 1000000 (.lit (0)) 1)), false), ((.ltI (.lit (30)) (.cell 1000000 (.lit (0)) 3)), false), ((.ltI (.cell 1000000 (.lit (0)) 3) (.lit (4))), false), ((.ltI (.lit (2)) (.cell 1000000 (.lit (0)) 2)), false), ((.ltI (.cell 1000000 (.lit (0)) 2) (.lit (1))), false), ((.ltI (.lit (40)) (.cell 1000000 (.lit (0)) 1)), false), ((.ltI (.cell 1000000 (.lit (0)) 1) (.lit (6))), false), ((.eqI (.cell 1000000 (.lit (0)) 0) (.lit (0))), true)], (.lit false)),
    ([((.ltI (.cell 1000000 (.lit (0)) 1) (.wrap .i64 (.bin .mul (.lit (2)) (.wrap .i64 (.bin .add (.cell 1000000 (.lit (0)) 2) (.lit (1))))))), true), ((.ltI (.wrap .i64 (.bin .mul (.lit (2)) (.wrap .i64 (.bin .sub (.cell 1000000 (.lit (0)) 3) (.lit (1)))))) (.cell 1000000 (.lit (0)) 1)), false), ((.ltI (.cell 1000000 (.lit (0)) 1) (.wrap .i64 (.bin .add (.wrap .i64 (.bin .mul (.lit (2)) (.cell 1000000 (.lit (0)) 2))) (.lit (2))))), false), ((.ltI (.wrap .i64 (.bin .sub (.wrap .i64 (.bin .mul (.lit (2)) (.cell 1000000 (.lit (0)) 3))) (.lit (2)))) (.cell 1000000 (.lit (0)) 1)), false), ((.ltI (.lit (30)) (.cell 1000000 (.lit (0)) 3)), false), ((.ltI (.cell 1000000 (.lit (0)) 3) (.lit (4))), false), ((.ltI (.lit (2)) (.cell 1000000 (.lit (0)) 2)), false), ((.ltI (.cell 1000000 (.lit (0)) 2) (.lit (1))), false), ((.ltI (.lit (40)) (.cell 1000000 (.lit (0)) 1)), false), ((.ltI (.cell 1000000 (.lit (0)) 1) (.lit (6))), false), ((.eqI (.cell 1000000 (.lit (0)) 0) (.lit (0))), true)], (.lit false))])]
theorem timesChecks_left (ρ : Env) : LeftsH ρ timesChecksLeft := by
  simp only [timesChecksLeft, LeftsH, LeftH, factPc, B.pv, and_true, factIn, kLo, kHi, T.ev, TOp.ev, wrap_form, wrapF, Bool.false_eq_true]
  repeat' constructor
  all_goals intros
  all_goals omega
theorem timesChecks_run : lawLeft cfg 2000 3 [23] timesChecksLeft = true := by kernel_rfl
theorem timesChecks_fn (H : Type) : ∀ ds : List (DataW H), ds.length = 1 → Rows.timesChecksSpec.fn H ds = { results := [.lit (.bool true)], args := ds }
  | [_], _ => rfl
set_option maxRecDepth 100000 in
theorem timesChecks_lifted (os : Os) (started : os.Started) (H : Type) (enc : TypeId × Value → H) :
    ReturnsInHanded {} Try.checked os 3 .any (Rows.timesChecksSpec.pre6 enc Try.prog Try.f3 Rows.timesChecksRow.domain false) (Rows.timesChecksSpec.post enc Try.prog Try.f3 false true false false) := by
  refine returnsInHanded_of_change (C := Try.checked) Try.own started (by kernel_rfl) Try.func3
    (ChangeSpec.witness6 (enc := enc) (C := Try.checked) false ⟨#[], #[zeroV Try.prog 23], []⟩ 8 (by kernel_rfl) (by kernel_rfl) (by kernel_rfl) (by kernel_rfl)) ?_
  intro W base args ds gs before hval hW _ _
  have hA := hW.choose_spec.choose_spec.1
  refine (law_left_of cfg_prog cfg_types cfg_hooks timesChecks_run timesChecks_left (us := Try.f3.params.toList) rfl (fun j t v h1 h2 => hval j t v (by rw [Array.getElem?_toList] at h1; exact h1) h2) hA).mono fun e W' ⟨he, hb⟩ => ?_
  exact ⟨_, he, law_post rfl rfl (by kernel_rfl) Try.laidOut (by kernel_rfl) (timesChecks_fn H ds (trodAll_len hA)) hW hb⟩
set_option maxRecDepth 100000 in
theorem timesChecks_holds : Rows.TimesChecksSaid :=
  OpenClaim.holds_of_wide 3 Try.f3 rfl rfl rfl rfl rfl rfl rfl ⟨rfl, rfl, rfl, rfl, rfl⟩ rfl rfl rfl rfl rfl (by kernel_rfl) Try.func3 (by kernel_rfl)
    (of_decide_eq_true (by kernel_rfl)) (by unfold Func.isWrapper; first | (rw [if_pos (by decide +kernel)]; kernel_rfl) | (rw [if_neg (by decide +kernel)]; exact ⟨rfl, rfl⟩))
    (fun os started H enc _ => timesChecks_lifted os started H enc)
end Go.Proofs.Ytpkfeinnhdnfiaa
