/-
  The law IdentBridges returns true for every input, and its arguments read as they did. Conditions: the package-level tables of the Go library that it reads hold what the program text lays (the card ties them).
-/
import Derived.Test.YtlpjldhkkjicgaaDoorCards
import Derived.Test.YtlpjldhkkjicgaaDoorTie
import Derived.LaidMore
import Derived.MakeChecks
import Derived.LaidHandle
import Derived.SevenTiedAt
import Derived.Test.YtlpjldhkkjicgaaDoorIdentBridges1
import Derived.Test.YtlpjldhkkjicgaaDoorIdentBridges2
import Derived.Test.YtlpjldhkkjicgaaDoorIdentBridges3
import Derived.Test.YtlpjldhkkjicgaaDoorIdentBridges4
import Derived.Test.YtlpjldhkkjicgaaDoorIdentBridges5
import Derived.Test.YtlpjldhkkjicgaaDoorIdentBridges6
import Derived.Test.YtlpjldhkkjicgaaDoorIdentBridges7
import Derived.Test.YtlpjldhkkjicgaaDoorIdentBridges8
namespace Go.Proofs.YtlpjldhkkjicgaaDoor
open Go.SX
def identBridgesTree : List (List Bool × Sp) :=
  [([], (.node (.ltI (.cell 1000000 (.lit (0)) 0) (.lit (0)))
   (.node (.ltI (.wrap .u64 (.cell 1000000 (.lit (0)) 7)) (.lit (4503599627370496)))
   .leaf
   (.node (.ltI (.wrap .u64 (.cell 1000000 (.lit (0)) 7)) (.lit (72057594037927936)))
   .leaf
   (.node (.ltI (.wrap .u64 (.cell 1000000 (.lit (0)) 7)) (.lit (1152921504606846976)))
   .leaf
   .leaf)))
   (.node (.ltI (.lit (61440)) (.cell 1000000 (.lit (0)) 0))
   (.node (.ltI (.wrap .u64 (.cell 1000000 (.lit (0)) 7)) (.lit (4503599627370496)))
   .leaf
   (.node (.ltI (.wrap .u64 (.cell 1000000 (.lit (0)) 7)) (.lit (72057594037927936)))
   .leaf
   (.node (.ltI (.wrap .u64 (.cell 1000000 (.lit (0)) 7)) (.lit (1152921504606846976)))
   .leaf
   .leaf)))
   (.node (.eqI (.bin .rem (.wrap .u16 (.cell 1000000 (.lit (0)) 0)) (.lit (4096))) (.lit (0)))
   (.node (.ltI (.wrap .u64 (.cell 1000000 (.lit (0)) 7)) (.lit (4503599627370496)))
   .leaf
   (.node (.ltI (.wrap .u64 (.cell 1000000 (.lit (0)) 7)) (.lit (72057594037927936)))
   .leaf
   (.node (.ltI (.wrap .u64 (.cell 1000000 (.lit (0)) 7)) (.lit (1152921504606846976)))
   .leaf
   .leaf)))
   (.node (.ltI (.wrap .u64 (.cell 1000000 (.lit (0)) 7)) (.lit (4503599627370496)))
   .leaf
   (.node (.ltI (.wrap .u64 (.cell 1000000 (.lit (0)) 7)) (.lit (72057594037927936)))
   .leaf
   (.node (.ltI (.wrap .u64 (.cell 1000000 (.lit (0)) 7)) (.lit (1152921504606846976)))
   .leaf
   .leaf)))))))]
theorem identBridges_tree : splitOk Tryd.checked.prog [3, 39, 30] identBridgesTree = true := by kernel_rfl
theorem identBridges_all : allLeaves identBridgesTree = [identBridgesL0, identBridgesL1, identBridgesL2, identBridgesL3, identBridgesL4, identBridgesL5, identBridgesL6, identBridgesL7, identBridgesL8, identBridgesL9, identBridgesL10, identBridgesL11, identBridgesL12, identBridgesL13, identBridgesL14, identBridgesL15] := by kernel_rfl
set_option maxRecDepth 100000 in
theorem identBridges_leaves : ∀ x ∈ allLeaves identBridgesTree, LeafOkG Tryd.checked.prog tabs 5 [3, 39, 30] x := by
  rw [identBridges_all]
  exact (List.forall_mem_cons.2 ⟨identBridges_ok0, (List.forall_mem_cons.2 ⟨identBridges_ok1, (List.forall_mem_cons.2 ⟨identBridges_ok2, (List.forall_mem_cons.2 ⟨identBridges_ok3, (List.forall_mem_cons.2 ⟨identBridges_ok4, (List.forall_mem_cons.2 ⟨identBridges_ok5, (List.forall_mem_cons.2 ⟨identBridges_ok6, (List.forall_mem_cons.2 ⟨identBridges_ok7, (List.forall_mem_cons.2 ⟨identBridges_ok8, (List.forall_mem_cons.2 ⟨identBridges_ok9, (List.forall_mem_cons.2 ⟨identBridges_ok10, (List.forall_mem_cons.2 ⟨identBridges_ok11, (List.forall_mem_cons.2 ⟨identBridges_ok12, (List.forall_mem_cons.2 ⟨identBridges_ok13, (List.forall_mem_cons.2 ⟨identBridges_ok14, (List.forall_mem_cons.2 ⟨identBridges_ok15, (fun _ h => by cases h)⟩)⟩)⟩)⟩)⟩)⟩)⟩)⟩)⟩)⟩)⟩)⟩)⟩)⟩)⟩)⟩)
theorem identBridges_fn (H : Type) : ∀ ds : List (DataW H), ds.length = 3 → Rows.identBridgesSpec.fn H ds = { results := [.lit (.bool true)], args := ds }
  | [_, _, _], _ => rfl
/-- the tables, out of the row's condition -/
theorem identBridges_tabs {W : World} (h : laidMetH Tryd.prog Rows.identBridgesRow.laid W) : GlOk tabs W := by
  rw [MakeChecks.laidMetH_plain _ _ _ (by kernel_rfl)] at h
  have hL := h
  exact glOk_of_laid hL (name := "math/bits.deBruijn64tab") (k := .u8) (zs := [0, 1, 56, 2, 57, 49, 28, 3, 61, 58, 42, 50, 38, 29, 17, 4, 62, 47, 59, 36, 45, 43, 51, 22, 53, 39, 33, 30, 24, 18, 12, 5, 63, 55, 48, 27, 60, 41, 37, 16, 46, 35, 44, 21, 52, 32, 23, 11, 54, 26, 40, 15, 34, 20, 31, 10, 25, 14, 19, 9, 13, 8, 7, 6]) (.tail _ (.head _)) (g := 5) (t := 103) (e := 5) (n := 64) (by kernel_rfl) (by kernel_rfl) (by kernel_rfl) (by kernel_rfl) (by kernel_rfl) (by kernel_rfl) (by kernel_rfl) (glOk_nil W)
theorem identBridges_door (os : Os) (args : Array Value) : laidMetH Tryd.prog Rows.identBridgesRow.laid ((World.doorLaid Tryd.prog 62 os).forCall (fun _ _ => 0) ⟨#[], args, []⟩).memory :=
  laidMetH_of_parts3 (fuel := 8) (laidMet_of_run' 8 (by kernel_rfl) (by kernel_rfl)) (by kernel_rfl) (by kernel_rfl)
set_option maxRecDepth 100000 in
theorem identBridges_lifted (os : Os) (started : os.Started) (H : Type) (enc : TypeId × Value → H) :
    ReturnsInHanded {} Tryd.checked os 5 .any (fun w args => (Rows.identBridgesSpec.pre enc Tryd.prog Tryd.f5 [] false w args ∧ laidMetH Tryd.prog Rows.identBridgesRow.laid w) ∧ sizedMet enc Tryd.prog Tryd.f5 (OpenSpec.ofChange Rows.identBridgesSpec) false w args)
      (Rows.identBridgesSpec.post enc Tryd.prog Tryd.f5 false true false false) := by
  refine returnsInHanded_of_change_and (C := Tryd.checked) (X := fun w _ => laidMetH Tryd.prog Rows.identBridgesRow.laid w) (fun _ _ _ hh h => h.of_heap hh) Tryd.own started (by kernel_rfl) Tryd.func5
    (ChangeSpec.witness_shaped (enc := enc) (C := Tryd.checked) (os := os) (X := fun w _ => laidMetH Tryd.prog Rows.identBridgesRow.laid w) false (World.doorLaid Tryd.prog 62 os) #[zeroV Tryd.prog 3, zeroV Tryd.prog 39, zeroV Tryd.prog 30] 8 rfl (World.shaped_of_RefB (by kernel_rfl) (by kernel_rfl)) (by kernel_rfl) (by kernel_rfl) (by kernel_rfl) (identBridges_door os _)) ?_
  intro W base args ds gs before hval hW _ _ hL _
  have hA := hW.choose_spec.choose_spec.1
  refine (law_split_anyG identBridges_tree identBridges_leaves (us := Tryd.f5.params.toList) rfl (identBridges_tabs hL) (fun j t v h1 h2 => hval j t v (by rw [Array.getElem?_toList] at h1; exact h1) h2) hA).mono fun e W' ⟨he, hb⟩ => ?_
  exact ⟨_, he, law_post rfl rfl (by kernel_rfl) Tryd.laidOut (by kernel_rfl) (identBridges_fn H ds (trodAll_len hA)) hW hb⟩
set_option maxRecDepth 100000 in
theorem identBridges_row : Rows.IdentBridgesSaid :=
  OpenClaim.holds_of_wide 5 Tryd.f5 rfl rfl rfl rfl rfl rfl rfl ⟨rfl, rfl, rfl, rfl, rfl⟩ rfl rfl rfl rfl rfl (by kernel_rfl) Tryd.func5 (by kernel_rfl)
    (of_decide_eq_true (by kernel_rfl)) (by unfold Func.isWrapper; first | (rw [if_pos (by decide +kernel)]; kernel_rfl) | (rw [if_neg (by decide +kernel)]; exact ⟨rfl, rfl⟩))
    (fun os started H enc _ => identBridges_lifted os started H enc)
theorem identBridges_holds : Rows.IdentBridgesCardSaid :=
  Claim7.holds_tied_plain_at .later [] [.data, .data, .data, .sentinel, .sentinel] true (true, "541f256a7d6095bf92e4ff350ac22834994858f41289e64fc3729a96a2966d1b") true
    identBridges_row (fun _ h => by cases h) (by kernel_rfl) (fun _ h => by cases h) identBridges_row_tie rfl ⟨rfl, rfl⟩ (by kernel_rfl) rfl
    (fun f fn hf hfn => by
      obtain rfl : f = 5 := Option.some.inj ((show Tryd.prog.funcNamed Rows.identBridgesRow.func = some 5 by kernel_rfl).symm.trans hf) |>.symm
      obtain rfl : fn = Tryd.f5 := (Option.some.inj (Tryd.func5.symm.trans hfn)).symm
      exact ⟨by kernel_rfl, fun j t ht => by
        have hp : Tryd.f5.params.toList = [3, 39, 30] := by kernel_rfl
        have hm : t ∈ ([3, 39, 30] : List TypeId) := by rw [← hp]; exact Array.mem_toList_iff.2 (Array.mem_of_getElem? ht)
        have hall : (([3, 39, 30] : List TypeId).all fun u => !Tryd.prog.wantsStandIn u) = true := by kernel_rfl
        exact (show Tryd.prog.wantsStandIn t = false by simpa using List.all_eq_true.1 hall t hm)⟩)
    (by kernel_rfl)
end Go.Proofs.YtlpjldhkkjicgaaDoor
