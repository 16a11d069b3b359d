/-
  No cell of these rows narrows 'for every input' (looked for: loops, veiled, ifaces, maps, wideKeys, modest, calm, conditions, laid).
  DERIVED. THE GIVEN ROWS OF THIS SEAT. 12 by the template 'for every input the law returns true; each argument reads behind the call as it read before'; 0 by the template 'total and deterministic' (their statements: YthdecegmnleljaaTotals.lean).
  GIVEN WITH THE SEED: the statements are not yours to turn. If you find one false, say at which input.
  Laid BY PROGRAM, IN A SANDBOX (cutbox-rows.mjs): the forced cells as the released guide's own fill.sh prints them over the translation 4dc7ae38b136d7c9… (all of the seat's roots in one cut). By AI agents, Wed Nov 11 2026. No macro, syntax, notation, axiom, sorry.
-/
import Derived.Test.YthdecegmnleljaaChecked
import GoSem.Claim
import GoSem.ClaimJoined
import GoSem.ClaimMapViews
import Derived.JoinedTies
import Derived.KernelRfl
namespace Go.Proofs.Ythdecegmnleljaa
/- THE CELL 'sum', in the pinned program and in every row, IS THE sha256 OF THE DUMP (.gsa) THAT YthdecegmnleljaaProg.lean LOADS. Nothing in Lean hashes anything: it is a label: what it is worth is what the hold of that sum in a sandbox is worth. -/
noncomputable def Try.pinned : Pinned := { name := "ythdecegmnleljaa", sum := "4dc7ae38b136d7c99c711bae2ab98e705e742228dcee6f7e9f5d0f89d3c50093", checked := Try.checked }
namespace Rows
def none {H : Type} : Left H := { results := [], args := [] }

/-- 'catenarylaw18.StateSteps': WHATEVER THE INPUT: true; the input reads as it did. -/
def stateStepsSpec : ChangeSpec := { name := "stateSteps", fn := fun _ => fun
  | [d1, d2] => { results := [.lit (.bool true)], args := [d1, d2] }
  | _ => none }
def stateStepsRow : OpenClaim := { program := "ythdecegmnleljaa", sum := "4dc7ae38b136d7c99c711bae2ab98e705e742228dcee6f7e9f5d0f89d3c50093", func := "catenary/catenarylaw18.StateSteps", spec := "stateSteps", unfollowed := true, recurses := true, apart := false }
def StateStepsSaid : Prop := stateStepsRow.holds Try.pinned (OpenSpec.ofChange stateStepsSpec)

/-- ITS FALSE NEIGHBOUR: 'it returns false'. Refute it at one input. -/
def stateStepsWrong : ChangeSpec := { name := "stateSteps", fn := fun _ => fun
  | [d1, d2] => { results := [.lit (.bool false)], args := [d1, d2] }
  | _ => none }
def StateStepsWrongFalsely : Prop := stateStepsRow.holds Try.pinned (OpenSpec.ofChange stateStepsWrong)

/-- 'catenarylaw18.StateFollows': WHATEVER THE INPUT: true; the input reads as it did. -/
def stateFollowsSpec : ChangeSpec := { name := "stateFollows", fn := fun _ => fun
  | [d] => { results := [.lit (.bool true)], args := [d] }
  | _ => none }
def stateFollowsRow : OpenClaim := { program := "ythdecegmnleljaa", sum := "4dc7ae38b136d7c99c711bae2ab98e705e742228dcee6f7e9f5d0f89d3c50093", func := "catenary/catenarylaw18.StateFollows", spec := "stateFollows", apart := false }
def StateFollowsSaid : Prop := stateFollowsRow.holds Try.pinned (OpenSpec.ofChange stateFollowsSpec)

/-- ITS FALSE NEIGHBOUR: 'it returns false'. Refute it at one input. -/
def stateFollowsWrong : ChangeSpec := { name := "stateFollows", fn := fun _ => fun
  | [d] => { results := [.lit (.bool false)], args := [d] }
  | _ => none }
def StateFollowsWrongFalsely : Prop := stateFollowsRow.holds Try.pinned (OpenSpec.ofChange stateFollowsWrong)

/-- 'catenarylaw18.StateStarts': WHATEVER THE INPUT: true; the input reads as it did. -/
def stateStartsSpec : ChangeSpec := { name := "stateStarts", fn := fun _ => fun
  | [d1, d2] => { results := [.lit (.bool true)], args := [d1, d2] }
  | _ => none }
def stateStartsRow : OpenClaim := { program := "ythdecegmnleljaa", sum := "4dc7ae38b136d7c99c711bae2ab98e705e742228dcee6f7e9f5d0f89d3c50093", func := "catenary/catenarylaw18.StateStarts", spec := "stateStarts", apart := false }
def StateStartsSaid : Prop := stateStartsRow.holds Try.pinned (OpenSpec.ofChange stateStartsSpec)

/-- ITS FALSE NEIGHBOUR: 'it returns false'. Refute it at one input. -/
def stateStartsWrong : ChangeSpec := { name := "stateStarts", fn := fun _ => fun
  | [d1, d2] => { results := [.lit (.bool false)], args := [d1, d2] }
  | _ => none }
def StateStartsWrongFalsely : Prop := stateStartsRow.holds Try.pinned (OpenSpec.ofChange stateStartsWrong)

/-- 'catenarylaw13.PortTicks': WHATEVER THE INPUT: true; the input reads as it did. -/
def portTicksSpec : ChangeSpec := { name := "portTicks", fn := fun _ => fun
  | [d1, d2] => { results := [.lit (.bool true)], args := [d1, d2] }
  | _ => none }
def portTicksRow : OpenClaim := { program := "ythdecegmnleljaa", sum := "4dc7ae38b136d7c99c711bae2ab98e705e742228dcee6f7e9f5d0f89d3c50093", func := "catenary/catenarylaw13.PortTicks", spec := "portTicks", apart := false }
def PortTicksSaid : Prop := portTicksRow.holds Try.pinned (OpenSpec.ofChange portTicksSpec)

/-- ITS FALSE NEIGHBOUR: 'it returns false'. Refute it at one input. -/
def portTicksWrong : ChangeSpec := { name := "portTicks", fn := fun _ => fun
  | [d1, d2] => { results := [.lit (.bool false)], args := [d1, d2] }
  | _ => none }
def PortTicksWrongFalsely : Prop := portTicksRow.holds Try.pinned (OpenSpec.ofChange portTicksWrong)

/-- 'catenarylaw14.ReceiveDetects': WHATEVER THE INPUT: true; the input reads as it did. -/
def receiveDetectsSpec : ChangeSpec := { name := "receiveDetects", fn := fun _ => fun
  | [d1, d2] => { results := [.lit (.bool true)], args := [d1, d2] }
  | _ => none }
def receiveDetectsRow : OpenClaim := { program := "ythdecegmnleljaa", sum := "4dc7ae38b136d7c99c711bae2ab98e705e742228dcee6f7e9f5d0f89d3c50093", func := "catenary/catenarylaw14.ReceiveDetects", spec := "receiveDetects", unfollowed := true, recurses := true, apart := false }
def ReceiveDetectsSaid : Prop := receiveDetectsRow.holds Try.pinned (OpenSpec.ofChange receiveDetectsSpec)

/-- ITS FALSE NEIGHBOUR: 'it returns false'. Refute it at one input. -/
def receiveDetectsWrong : ChangeSpec := { name := "receiveDetects", fn := fun _ => fun
  | [d1, d2] => { results := [.lit (.bool false)], args := [d1, d2] }
  | _ => none }
def ReceiveDetectsWrongFalsely : Prop := receiveDetectsRow.holds Try.pinned (OpenSpec.ofChange receiveDetectsWrong)

/-- 'catenarylaw13.PortAlls': WHATEVER THE INPUT: true; the input reads as it did. -/
def portAllsSpec : ChangeSpec := { name := "portAlls", fn := fun _ => fun
  | [d1, d2] => { results := [.lit (.bool true)], args := [d1, d2] }
  | _ => none }
def portAllsRow : OpenClaim := { program := "ythdecegmnleljaa", sum := "4dc7ae38b136d7c99c711bae2ab98e705e742228dcee6f7e9f5d0f89d3c50093", func := "catenary/catenarylaw13.PortAlls", spec := "portAlls", unfollowed := true, recurses := true, apart := false }
def PortAllsSaid : Prop := portAllsRow.holds Try.pinned (OpenSpec.ofChange portAllsSpec)

/-- ITS FALSE NEIGHBOUR: 'it returns false'. Refute it at one input. -/
def portAllsWrong : ChangeSpec := { name := "portAlls", fn := fun _ => fun
  | [d1, d2] => { results := [.lit (.bool false)], args := [d1, d2] }
  | _ => none }
def PortAllsWrongFalsely : Prop := portAllsRow.holds Try.pinned (OpenSpec.ofChange portAllsWrong)

/-- 'catenarylaw14.ReceiveMigrates': WHATEVER THE INPUT: true; the input reads as it did. -/
def receiveMigratesSpec : ChangeSpec := { name := "receiveMigrates", fn := fun _ => fun
  | [d1, d2] => { results := [.lit (.bool true)], args := [d1, d2] }
  | _ => none }
def receiveMigratesRow : OpenClaim := { program := "ythdecegmnleljaa", sum := "4dc7ae38b136d7c99c711bae2ab98e705e742228dcee6f7e9f5d0f89d3c50093", func := "catenary/catenarylaw14.ReceiveMigrates", spec := "receiveMigrates", unfollowed := true, recurses := true, apart := false }
def ReceiveMigratesSaid : Prop := receiveMigratesRow.holds Try.pinned (OpenSpec.ofChange receiveMigratesSpec)

/-- ITS FALSE NEIGHBOUR: 'it returns false'. Refute it at one input. -/
def receiveMigratesWrong : ChangeSpec := { name := "receiveMigrates", fn := fun _ => fun
  | [d1, d2] => { results := [.lit (.bool false)], args := [d1, d2] }
  | _ => none }
def ReceiveMigratesWrongFalsely : Prop := receiveMigratesRow.holds Try.pinned (OpenSpec.ofChange receiveMigratesWrong)

/-- 'catenarylaw19.TransmitSteps': WHATEVER THE INPUT: true; the input reads as it did. -/
def transmitStepsSpec : ChangeSpec := { name := "transmitSteps", fn := fun _ => fun
  | [d1, d2] => { results := [.lit (.bool true)], args := [d1, d2] }
  | _ => none }
def transmitStepsRow : OpenClaim := { program := "ythdecegmnleljaa", sum := "4dc7ae38b136d7c99c711bae2ab98e705e742228dcee6f7e9f5d0f89d3c50093", func := "catenary/catenarylaw19.TransmitSteps", spec := "transmitSteps", unfollowed := true, recurses := true, apart := false }
def TransmitStepsSaid : Prop := transmitStepsRow.holds Try.pinned (OpenSpec.ofChange transmitStepsSpec)

/-- ITS FALSE NEIGHBOUR: 'it returns false'. Refute it at one input. -/
def transmitStepsWrong : ChangeSpec := { name := "transmitSteps", fn := fun _ => fun
  | [d1, d2] => { results := [.lit (.bool false)], args := [d1, d2] }
  | _ => none }
def TransmitStepsWrongFalsely : Prop := transmitStepsRow.holds Try.pinned (OpenSpec.ofChange transmitStepsWrong)

/-- 'catenarylaw19.TransmitHolds': WHATEVER THE INPUT: true; the input reads as it did. -/
def transmitHoldsSpec : ChangeSpec := { name := "transmitHolds", fn := fun _ => fun
  | [d1, d2, d3] => { results := [.lit (.bool true)], args := [d1, d2, d3] }
  | _ => none }
def transmitHoldsRow : OpenClaim := { program := "ythdecegmnleljaa", sum := "4dc7ae38b136d7c99c711bae2ab98e705e742228dcee6f7e9f5d0f89d3c50093", func := "catenary/catenarylaw19.TransmitHolds", spec := "transmitHolds", unfollowed := true, recurses := true, apart := false }
def TransmitHoldsSaid : Prop := transmitHoldsRow.holds Try.pinned (OpenSpec.ofChange transmitHoldsSpec)

/-- ITS FALSE NEIGHBOUR: 'it returns false'. Refute it at one input. -/
def transmitHoldsWrong : ChangeSpec := { name := "transmitHolds", fn := fun _ => fun
  | [d1, d2, d3] => { results := [.lit (.bool false)], args := [d1, d2, d3] }
  | _ => none }
def TransmitHoldsWrongFalsely : Prop := transmitHoldsRow.holds Try.pinned (OpenSpec.ofChange transmitHoldsWrong)

/-- 'catenarylaw19.TransmitStarts': WHATEVER THE INPUT: true; the input reads as it did. -/
def transmitStartsSpec : ChangeSpec := { name := "transmitStarts", fn := fun _ => fun
  | [d1, d2] => { results := [.lit (.bool true)], args := [d1, d2] }
  | _ => none }
def transmitStartsRow : OpenClaim := { program := "ythdecegmnleljaa", sum := "4dc7ae38b136d7c99c711bae2ab98e705e742228dcee6f7e9f5d0f89d3c50093", func := "catenary/catenarylaw19.TransmitStarts", spec := "transmitStarts", unfollowed := true, recurses := true, apart := false }
def TransmitStartsSaid : Prop := transmitStartsRow.holds Try.pinned (OpenSpec.ofChange transmitStartsSpec)

/-- ITS FALSE NEIGHBOUR: 'it returns false'. Refute it at one input. -/
def transmitStartsWrong : ChangeSpec := { name := "transmitStarts", fn := fun _ => fun
  | [d1, d2] => { results := [.lit (.bool false)], args := [d1, d2] }
  | _ => none }
def TransmitStartsWrongFalsely : Prop := transmitStartsRow.holds Try.pinned (OpenSpec.ofChange transmitStartsWrong)

/-- 'catenarylaw14.ReceiveStarts': WHATEVER THE INPUT: true; the input reads as it did. -/
def receiveStartsSpec : ChangeSpec := { name := "receiveStarts", fn := fun _ => fun
  | [d1, d2] => { results := [.lit (.bool true)], args := [d1, d2] }
  | _ => none }
def receiveStartsRow : OpenClaim := { program := "ythdecegmnleljaa", sum := "4dc7ae38b136d7c99c711bae2ab98e705e742228dcee6f7e9f5d0f89d3c50093", func := "catenary/catenarylaw14.ReceiveStarts", spec := "receiveStarts", apart := false }
def ReceiveStartsSaid : Prop := receiveStartsRow.holds Try.pinned (OpenSpec.ofChange receiveStartsSpec)

/-- ITS FALSE NEIGHBOUR: 'it returns false'. Refute it at one input. -/
def receiveStartsWrong : ChangeSpec := { name := "receiveStarts", fn := fun _ => fun
  | [d1, d2] => { results := [.lit (.bool false)], args := [d1, d2] }
  | _ => none }
def ReceiveStartsWrongFalsely : Prop := receiveStartsRow.holds Try.pinned (OpenSpec.ofChange receiveStartsWrong)

/-- 'catenarylaw18.StateChanges': WHATEVER THE INPUT: true; the input reads as it did. -/
def stateChangesSpec : ChangeSpec := { name := "stateChanges", fn := fun _ => fun
  | [d1, d2] => { results := [.lit (.bool true)], args := [d1, d2] }
  | _ => none }
def stateChangesRow : OpenClaim := { program := "ythdecegmnleljaa", sum := "4dc7ae38b136d7c99c711bae2ab98e705e742228dcee6f7e9f5d0f89d3c50093", func := "catenary/catenarylaw18.StateChanges", spec := "stateChanges", unfollowed := true, recurses := true, apart := false }
def StateChangesSaid : Prop := stateChangesRow.holds Try.pinned (OpenSpec.ofChange stateChangesSpec)

/-- ITS FALSE NEIGHBOUR: 'it returns false'. Refute it at one input. -/
def stateChangesWrong : ChangeSpec := { name := "stateChanges", fn := fun _ => fun
  | [d1, d2] => { results := [.lit (.bool false)], args := [d1, d2] }
  | _ => none }
def StateChangesWrongFalsely : Prop := stateChangesRow.holds Try.pinned (OpenSpec.ofChange stateChangesWrong)

/- THE SECOND FORM. 'bulk': how many values and letters a reading holds, each counted each time it is reached (what is shared counts as often as it is met; a slice's spare places count too). A statement '..UptoSaid' is the law's where the arguments, and the package variables that the reading takes, are together of bulk at most 1048576: NARROWER than '..Said'. Prove '..Said' where nothing that the law and all that it calls make is longer than what came in: it says more and counts as full. Else prove '..UptoSaid'. A law counts once. -/
mutual
def uptoBulk {H : Type} : DataW H → Nat
  | .lit (.string bytes) => bytes.length + 1
  | .lit _ => 1
  | .nil => 1
  | .ptr d => uptoBulk d + 1
  | .slice elems spare => uptoBulkAll elems + uptoBulkAll spare + 1
  | .agg parts => uptoBulkAll parts + 1
  | .iface _ d => uptoBulk d + 1
  | .map entries => uptoBulkEntries entries + 1
  | .held _ => 1
def uptoBulkAll {H : Type} : List (DataW H) → Nat
  | [] => 0
  | d :: r => uptoBulk d + uptoBulkAll r
def uptoBulkEntries {H : Type} : List (Lit × DataW H) → Nat
  | [] => 0
  | x :: r => uptoBulkEntry x + uptoBulkEntries r
def uptoBulkEntry {H : Type} : Lit × DataW H → Nat
  | (.string bytes, d) => bytes.length + uptoBulk d + 1
  | (_, d) => uptoBulk d + 1
 end
def uptoSmall : (H : Type) → List (DataW H) → Bool := fun _ ds => decide (uptoBulkAll ds ≤ 1048576)
def OpenSpec.upto (s : _root_.Go.ChangeSpec) : _root_.Go.OpenSpec := { _root_.Go.OpenSpec.ofChange s with cond := some uptoSmall }

/-- 'catenarylaw18.StateSteps', WHERE WHAT IT READS IS OF BULK AT MOST 1048576: true; the input reads as it did. -/
def stateStepsUptoRow : OpenClaim := { program := "ythdecegmnleljaa", sum := "4dc7ae38b136d7c99c711bae2ab98e705e742228dcee6f7e9f5d0f89d3c50093", func := "catenary/catenarylaw18.StateSteps", spec := "stateSteps", unfollowed := true, recurses := true, apart := false, narrowed := true }
def StateStepsUptoSaid : Prop := stateStepsUptoRow.holds Try.pinned (OpenSpec.upto stateStepsSpec)

/-- 'catenarylaw18.StateFollows', WHERE WHAT IT READS IS OF BULK AT MOST 1048576: true; the input reads as it did. -/
def stateFollowsUptoRow : OpenClaim := { program := "ythdecegmnleljaa", sum := "4dc7ae38b136d7c99c711bae2ab98e705e742228dcee6f7e9f5d0f89d3c50093", func := "catenary/catenarylaw18.StateFollows", spec := "stateFollows", apart := false, narrowed := true }
def StateFollowsUptoSaid : Prop := stateFollowsUptoRow.holds Try.pinned (OpenSpec.upto stateFollowsSpec)

/-- 'catenarylaw18.StateStarts', WHERE WHAT IT READS IS OF BULK AT MOST 1048576: true; the input reads as it did. -/
def stateStartsUptoRow : OpenClaim := { program := "ythdecegmnleljaa", sum := "4dc7ae38b136d7c99c711bae2ab98e705e742228dcee6f7e9f5d0f89d3c50093", func := "catenary/catenarylaw18.StateStarts", spec := "stateStarts", apart := false, narrowed := true }
def StateStartsUptoSaid : Prop := stateStartsUptoRow.holds Try.pinned (OpenSpec.upto stateStartsSpec)

/-- 'catenarylaw13.PortTicks', WHERE WHAT IT READS IS OF BULK AT MOST 1048576: true; the input reads as it did. -/
def portTicksUptoRow : OpenClaim := { program := "ythdecegmnleljaa", sum := "4dc7ae38b136d7c99c711bae2ab98e705e742228dcee6f7e9f5d0f89d3c50093", func := "catenary/catenarylaw13.PortTicks", spec := "portTicks", apart := false, narrowed := true }
def PortTicksUptoSaid : Prop := portTicksUptoRow.holds Try.pinned (OpenSpec.upto portTicksSpec)

/-- 'catenarylaw14.ReceiveDetects', WHERE WHAT IT READS IS OF BULK AT MOST 1048576: true; the input reads as it did. -/
def receiveDetectsUptoRow : OpenClaim := { program := "ythdecegmnleljaa", sum := "4dc7ae38b136d7c99c711bae2ab98e705e742228dcee6f7e9f5d0f89d3c50093", func := "catenary/catenarylaw14.ReceiveDetects", spec := "receiveDetects", unfollowed := true, recurses := true, apart := false, narrowed := true }
def ReceiveDetectsUptoSaid : Prop := receiveDetectsUptoRow.holds Try.pinned (OpenSpec.upto receiveDetectsSpec)

/-- 'catenarylaw13.PortAlls', WHERE WHAT IT READS IS OF BULK AT MOST 1048576: true; the input reads as it did. -/
def portAllsUptoRow : OpenClaim := { program := "ythdecegmnleljaa", sum := "4dc7ae38b136d7c99c711bae2ab98e705e742228dcee6f7e9f5d0f89d3c50093", func := "catenary/catenarylaw13.PortAlls", spec := "portAlls", unfollowed := true, recurses := true, apart := false, narrowed := true }
def PortAllsUptoSaid : Prop := portAllsUptoRow.holds Try.pinned (OpenSpec.upto portAllsSpec)

/-- 'catenarylaw14.ReceiveMigrates', WHERE WHAT IT READS IS OF BULK AT MOST 1048576: true; the input reads as it did. -/
def receiveMigratesUptoRow : OpenClaim := { program := "ythdecegmnleljaa", sum := "4dc7ae38b136d7c99c711bae2ab98e705e742228dcee6f7e9f5d0f89d3c50093", func := "catenary/catenarylaw14.ReceiveMigrates", spec := "receiveMigrates", unfollowed := true, recurses := true, apart := false, narrowed := true }
def ReceiveMigratesUptoSaid : Prop := receiveMigratesUptoRow.holds Try.pinned (OpenSpec.upto receiveMigratesSpec)

/-- 'catenarylaw19.TransmitSteps', WHERE WHAT IT READS IS OF BULK AT MOST 1048576: true; the input reads as it did. -/
def transmitStepsUptoRow : OpenClaim := { program := "ythdecegmnleljaa", sum := "4dc7ae38b136d7c99c711bae2ab98e705e742228dcee6f7e9f5d0f89d3c50093", func := "catenary/catenarylaw19.TransmitSteps", spec := "transmitSteps", unfollowed := true, recurses := true, apart := false, narrowed := true }
def TransmitStepsUptoSaid : Prop := transmitStepsUptoRow.holds Try.pinned (OpenSpec.upto transmitStepsSpec)

/-- 'catenarylaw19.TransmitHolds', WHERE WHAT IT READS IS OF BULK AT MOST 1048576: true; the input reads as it did. -/
def transmitHoldsUptoRow : OpenClaim := { program := "ythdecegmnleljaa", sum := "4dc7ae38b136d7c99c711bae2ab98e705e742228dcee6f7e9f5d0f89d3c50093", func := "catenary/catenarylaw19.TransmitHolds", spec := "transmitHolds", unfollowed := true, recurses := true, apart := false, narrowed := true }
def TransmitHoldsUptoSaid : Prop := transmitHoldsUptoRow.holds Try.pinned (OpenSpec.upto transmitHoldsSpec)

/-- 'catenarylaw19.TransmitStarts', WHERE WHAT IT READS IS OF BULK AT MOST 1048576: true; the input reads as it did. -/
def transmitStartsUptoRow : OpenClaim := { program := "ythdecegmnleljaa", sum := "4dc7ae38b136d7c99c711bae2ab98e705e742228dcee6f7e9f5d0f89d3c50093", func := "catenary/catenarylaw19.TransmitStarts", spec := "transmitStarts", unfollowed := true, recurses := true, apart := false, narrowed := true }
def TransmitStartsUptoSaid : Prop := transmitStartsUptoRow.holds Try.pinned (OpenSpec.upto transmitStartsSpec)

/-- 'catenarylaw14.ReceiveStarts', WHERE WHAT IT READS IS OF BULK AT MOST 1048576: true; the input reads as it did. -/
def receiveStartsUptoRow : OpenClaim := { program := "ythdecegmnleljaa", sum := "4dc7ae38b136d7c99c711bae2ab98e705e742228dcee6f7e9f5d0f89d3c50093", func := "catenary/catenarylaw14.ReceiveStarts", spec := "receiveStarts", apart := false, narrowed := true }
def ReceiveStartsUptoSaid : Prop := receiveStartsUptoRow.holds Try.pinned (OpenSpec.upto receiveStartsSpec)

/-- 'catenarylaw18.StateChanges', WHERE WHAT IT READS IS OF BULK AT MOST 1048576: true; the input reads as it did. -/
def stateChangesUptoRow : OpenClaim := { program := "ythdecegmnleljaa", sum := "4dc7ae38b136d7c99c711bae2ab98e705e742228dcee6f7e9f5d0f89d3c50093", func := "catenary/catenarylaw18.StateChanges", spec := "stateChanges", unfollowed := true, recurses := true, apart := false, narrowed := true }
def StateChangesUptoSaid : Prop := stateChangesUptoRow.holds Try.pinned (OpenSpec.upto stateChangesSpec)

end Rows
end Go.Proofs.Ythdecegmnleljaa
