/-
  No cell of these rows narrows 'for every input' (looked for: loops, veiled, ifaces, maps, wideKeys, modest, calm, conditions, laid).
  DERIVED. THE GIVEN ROWS OF THIS SEAT. 9 by the template 'for every input the law returns true; each argument reads behind the call as it read before'; 0 by the template 'total and deterministic' (their statements: YtllkjhnmjhpbnaaTotals.lean).
  GIVEN WITH THE SEED: the statements are not yours to turn. If you find one false, say at which input.
  Laid BY PROGRAM, IN A SANDBOX (cutbox-rows.mjs): the forced cells as the released guide's own fill.sh prints them over the translation 7693a91a5fb0d4d2… (all of the seat's roots in one cut). By AI agents, Wed Nov 11 2026. No macro, syntax, notation, axiom, sorry.
-/
import Derived.Test.YtllkjhnmjhpbnaaChecked
import GoSem.Claim
import GoSem.ClaimJoined
import GoSem.ClaimMapViews
import Derived.JoinedTies
import Derived.KernelRfl
namespace Go.Proofs.Ytllkjhnmjhpbnaa
/- THE CELL 'sum', in the pinned program and in every row, IS THE sha256 OF THE DUMP (.gsa) THAT YtllkjhnmjhpbnaaProg.lean LOADS. Nothing in Lean hashes anything: it is a label: what it is worth is what the hold of that sum in a sandbox is worth. -/
noncomputable def Try.pinned : Pinned := { name := "ytllkjhnmjhpbnaa", sum := "7693a91a5fb0d4d263004422e339baf6fc01e5152e6237f43a0017958bae651f", checked := Try.checked }
namespace Rows
def none {H : Type} : Left H := { results := [], args := [] }

/-- 'catenarylaw09.ChooseUpdates': WHATEVER THE INPUT: true; the input reads as it did. -/
def chooseUpdatesSpec : ChangeSpec := { name := "chooseUpdates", fn := fun _ => fun
  | [d] => { results := [.lit (.bool true)], args := [d] }
  | _ => none }
def chooseUpdatesRow : OpenClaim := { program := "ytllkjhnmjhpbnaa", sum := "7693a91a5fb0d4d263004422e339baf6fc01e5152e6237f43a0017958bae651f", func := "catenary/catenarylaw09.ChooseUpdates", spec := "chooseUpdates", apart := false }
def ChooseUpdatesSaid : Prop := chooseUpdatesRow.holds Try.pinned (OpenSpec.ofChange chooseUpdatesSpec)

/-- ITS FALSE NEIGHBOUR: 'it returns false'. Refute it at one input. -/
def chooseUpdatesWrong : ChangeSpec := { name := "chooseUpdates", fn := fun _ => fun
  | [d] => { results := [.lit (.bool false)], args := [d] }
  | _ => none }
def ChooseUpdatesWrongFalsely : Prop := chooseUpdatesRow.holds Try.pinned (OpenSpec.ofChange chooseUpdatesWrong)

/-- 'catenarylaw17.TransRoles': WHATEVER THE INPUT: true; the input reads as it did. -/
def transRolesSpec : ChangeSpec := { name := "transRoles", fn := fun _ => fun
  | [d1, d2, d3] => { results := [.lit (.bool true)], args := [d1, d2, d3] }
  | _ => none }
def transRolesRow : OpenClaim := { program := "ytllkjhnmjhpbnaa", sum := "7693a91a5fb0d4d263004422e339baf6fc01e5152e6237f43a0017958bae651f", func := "catenary/catenarylaw17.TransRoles", spec := "transRoles", unfollowed := true, recurses := true, apart := false }
def TransRolesSaid : Prop := transRolesRow.holds Try.pinned (OpenSpec.ofChange transRolesSpec)

/-- ITS FALSE NEIGHBOUR: 'it returns false'. Refute it at one input. -/
def transRolesWrong : ChangeSpec := { name := "transRoles", fn := fun _ => fun
  | [d1, d2, d3] => { results := [.lit (.bool false)], args := [d1, d2, d3] }
  | _ => none }
def TransRolesWrongFalsely : Prop := transRolesRow.holds Try.pinned (OpenSpec.ofChange transRolesWrong)

/-- 'catenarylaw16.RolesStarts': WHATEVER THE INPUT: true; the input reads as it did. -/
def rolesStartsSpec : ChangeSpec := { name := "rolesStarts", fn := fun _ => fun
  | [d] => { results := [.lit (.bool true)], args := [d] }
  | _ => none }
def rolesStartsRow : OpenClaim := { program := "ytllkjhnmjhpbnaa", sum := "7693a91a5fb0d4d263004422e339baf6fc01e5152e6237f43a0017958bae651f", func := "catenary/catenarylaw16.RolesStarts", spec := "rolesStarts", apart := false }
def RolesStartsSaid : Prop := rolesStartsRow.holds Try.pinned (OpenSpec.ofChange rolesStartsSpec)

/-- ITS FALSE NEIGHBOUR: 'it returns false'. Refute it at one input. -/
def rolesStartsWrong : ChangeSpec := { name := "rolesStarts", fn := fun _ => fun
  | [d] => { results := [.lit (.bool false)], args := [d] }
  | _ => none }
def RolesStartsWrongFalsely : Prop := rolesStartsRow.holds Try.pinned (OpenSpec.ofChange rolesStartsWrong)

/-- 'catenarylaw17.TransStarts': WHATEVER THE INPUT: true; the input reads as it did. -/
def transStartsSpec : ChangeSpec := { name := "transStarts", fn := fun _ => fun
  | [d1, d2] => { results := [.lit (.bool true)], args := [d1, d2] }
  | _ => none }
def transStartsRow : OpenClaim := { program := "ytllkjhnmjhpbnaa", sum := "7693a91a5fb0d4d263004422e339baf6fc01e5152e6237f43a0017958bae651f", func := "catenary/catenarylaw17.TransStarts", spec := "transStarts", unfollowed := true, recurses := true, apart := false }
def TransStartsSaid : Prop := transStartsRow.holds Try.pinned (OpenSpec.ofChange transStartsSpec)

/-- ITS FALSE NEIGHBOUR: 'it returns false'. Refute it at one input. -/
def transStartsWrong : ChangeSpec := { name := "transStarts", fn := fun _ => fun
  | [d1, d2] => { results := [.lit (.bool false)], args := [d1, d2] }
  | _ => none }
def TransStartsWrongFalsely : Prop := transStartsRow.holds Try.pinned (OpenSpec.ofChange transStartsWrong)

/-- 'catenarylaw16.RolesSteps': WHATEVER THE INPUT: true; the input reads as it did. -/
def rolesStepsSpec : ChangeSpec := { name := "rolesSteps", fn := fun _ => fun
  | [d] => { results := [.lit (.bool true)], args := [d] }
  | _ => none }
def rolesStepsRow : OpenClaim := { program := "ytllkjhnmjhpbnaa", sum := "7693a91a5fb0d4d263004422e339baf6fc01e5152e6237f43a0017958bae651f", func := "catenary/catenarylaw16.RolesSteps", spec := "rolesSteps", apart := false }
def RolesStepsSaid : Prop := rolesStepsRow.holds Try.pinned (OpenSpec.ofChange rolesStepsSpec)

/-- ITS FALSE NEIGHBOUR: 'it returns false'. Refute it at one input. -/
def rolesStepsWrong : ChangeSpec := { name := "rolesSteps", fn := fun _ => fun
  | [d] => { results := [.lit (.bool false)], args := [d] }
  | _ => none }
def RolesStepsWrongFalsely : Prop := rolesStepsRow.holds Try.pinned (OpenSpec.ofChange rolesStepsWrong)

/-- 'catenarylaw15.InfoNews': WHATEVER THE INPUT: true; the input reads as it did. -/
def infoNewsSpec : ChangeSpec := { name := "infoNews", fn := fun _ => fun
  | [d] => { results := [.lit (.bool true)], args := [d] }
  | _ => none }
def infoNewsRow : OpenClaim := { program := "ytllkjhnmjhpbnaa", sum := "7693a91a5fb0d4d263004422e339baf6fc01e5152e6237f43a0017958bae651f", func := "catenary/catenarylaw15.InfoNews", spec := "infoNews", apart := false }
def InfoNewsSaid : Prop := infoNewsRow.holds Try.pinned (OpenSpec.ofChange infoNewsSpec)

/-- ITS FALSE NEIGHBOUR: 'it returns false'. Refute it at one input. -/
def infoNewsWrong : ChangeSpec := { name := "infoNews", fn := fun _ => fun
  | [d] => { results := [.lit (.bool false)], args := [d] }
  | _ => none }
def InfoNewsWrongFalsely : Prop := infoNewsRow.holds Try.pinned (OpenSpec.ofChange infoNewsWrong)

/-- 'catenarylaw15.InfoSteps': WHATEVER THE INPUT: true; the input reads as it did. -/
def infoStepsSpec : ChangeSpec := { name := "infoSteps", fn := fun _ => fun
  | [d1, d2] => { results := [.lit (.bool true)], args := [d1, d2] }
  | _ => none }
def infoStepsRow : OpenClaim := { program := "ytllkjhnmjhpbnaa", sum := "7693a91a5fb0d4d263004422e339baf6fc01e5152e6237f43a0017958bae651f", func := "catenary/catenarylaw15.InfoSteps", spec := "infoSteps", unfollowed := true, recurses := true, apart := false }
def InfoStepsSaid : Prop := infoStepsRow.holds Try.pinned (OpenSpec.ofChange infoStepsSpec)

/-- ITS FALSE NEIGHBOUR: 'it returns false'. Refute it at one input. -/
def infoStepsWrong : ChangeSpec := { name := "infoSteps", fn := fun _ => fun
  | [d1, d2] => { results := [.lit (.bool false)], args := [d1, d2] }
  | _ => none }
def InfoStepsWrongFalsely : Prop := infoStepsRow.holds Try.pinned (OpenSpec.ofChange infoStepsWrong)

/-- 'catenarylaw15.InfoHears': WHATEVER THE INPUT: true; the input reads as it did. -/
def infoHearsSpec : ChangeSpec := { name := "infoHears", fn := fun _ => fun
  | [d1, d2, d3] => { results := [.lit (.bool true)], args := [d1, d2, d3] }
  | _ => none }
def infoHearsRow : OpenClaim := { program := "ytllkjhnmjhpbnaa", sum := "7693a91a5fb0d4d263004422e339baf6fc01e5152e6237f43a0017958bae651f", func := "catenary/catenarylaw15.InfoHears", spec := "infoHears", apart := false }
def InfoHearsSaid : Prop := infoHearsRow.holds Try.pinned (OpenSpec.ofChange infoHearsSpec)

/-- ITS FALSE NEIGHBOUR: 'it returns false'. Refute it at one input. -/
def infoHearsWrong : ChangeSpec := { name := "infoHears", fn := fun _ => fun
  | [d1, d2, d3] => { results := [.lit (.bool false)], args := [d1, d2, d3] }
  | _ => none }
def InfoHearsWrongFalsely : Prop := infoHearsRow.holds Try.pinned (OpenSpec.ofChange infoHearsWrong)

/-- 'catenarylaw15.InfoStarts': WHATEVER THE INPUT: true; the input reads as it did. -/
def infoStartsSpec : ChangeSpec := { name := "infoStarts", fn := fun _ => fun
  | [d1, d2] => { results := [.lit (.bool true)], args := [d1, d2] }
  | _ => none }
def infoStartsRow : OpenClaim := { program := "ytllkjhnmjhpbnaa", sum := "7693a91a5fb0d4d263004422e339baf6fc01e5152e6237f43a0017958bae651f", func := "catenary/catenarylaw15.InfoStarts", spec := "infoStarts", apart := false }
def InfoStartsSaid : Prop := infoStartsRow.holds Try.pinned (OpenSpec.ofChange infoStartsSpec)

/-- ITS FALSE NEIGHBOUR: 'it returns false'. Refute it at one input. -/
def infoStartsWrong : ChangeSpec := { name := "infoStarts", fn := fun _ => fun
  | [d1, d2] => { results := [.lit (.bool false)], args := [d1, d2] }
  | _ => none }
def InfoStartsWrongFalsely : Prop := infoStartsRow.holds Try.pinned (OpenSpec.ofChange infoStartsWrong)

/- THE SECOND FORM. 'bulk': how many values and letters a reading holds, each counted each time it is reached (what is shared counts as often as it is met; a slice's spare places count too). A statement '..UptoSaid' is the law's where the arguments, and the package variables that the reading takes, are together of bulk at most 1048576: NARROWER than '..Said'. Prove '..Said' where nothing that the law and all that it calls make is longer than what came in: it says more and counts as full. Else prove '..UptoSaid'. A law counts once. -/
mutual
def uptoBulk {H : Type} : DataW H → Nat
  | .lit (.string bytes) => bytes.length + 1
  | .lit _ => 1
  | .nil => 1
  | .ptr d => uptoBulk d + 1
  | .slice elems spare => uptoBulkAll elems + uptoBulkAll spare + 1
  | .agg parts => uptoBulkAll parts + 1
  | .iface _ d => uptoBulk d + 1
  | .map entries => uptoBulkEntries entries + 1
  | .held _ => 1
def uptoBulkAll {H : Type} : List (DataW H) → Nat
  | [] => 0
  | d :: r => uptoBulk d + uptoBulkAll r
def uptoBulkEntries {H : Type} : List (Lit × DataW H) → Nat
  | [] => 0
  | x :: r => uptoBulkEntry x + uptoBulkEntries r
def uptoBulkEntry {H : Type} : Lit × DataW H → Nat
  | (.string bytes, d) => bytes.length + uptoBulk d + 1
  | (_, d) => uptoBulk d + 1
 end
def uptoSmall : (H : Type) → List (DataW H) → Bool := fun _ ds => decide (uptoBulkAll ds ≤ 1048576)
def OpenSpec.upto (s : _root_.Go.ChangeSpec) : _root_.Go.OpenSpec := { _root_.Go.OpenSpec.ofChange s with cond := some uptoSmall }

/-- 'catenarylaw09.ChooseUpdates', WHERE WHAT IT READS IS OF BULK AT MOST 1048576: true; the input reads as it did. -/
def chooseUpdatesUptoRow : OpenClaim := { program := "ytllkjhnmjhpbnaa", sum := "7693a91a5fb0d4d263004422e339baf6fc01e5152e6237f43a0017958bae651f", func := "catenary/catenarylaw09.ChooseUpdates", spec := "chooseUpdates", apart := false, narrowed := true }
def ChooseUpdatesUptoSaid : Prop := chooseUpdatesUptoRow.holds Try.pinned (OpenSpec.upto chooseUpdatesSpec)

/-- 'catenarylaw17.TransRoles', WHERE WHAT IT READS IS OF BULK AT MOST 1048576: true; the input reads as it did. -/
def transRolesUptoRow : OpenClaim := { program := "ytllkjhnmjhpbnaa", sum := "7693a91a5fb0d4d263004422e339baf6fc01e5152e6237f43a0017958bae651f", func := "catenary/catenarylaw17.TransRoles", spec := "transRoles", unfollowed := true, recurses := true, apart := false, narrowed := true }
def TransRolesUptoSaid : Prop := transRolesUptoRow.holds Try.pinned (OpenSpec.upto transRolesSpec)

/-- 'catenarylaw16.RolesStarts', WHERE WHAT IT READS IS OF BULK AT MOST 1048576: true; the input reads as it did. -/
def rolesStartsUptoRow : OpenClaim := { program := "ytllkjhnmjhpbnaa", sum := "7693a91a5fb0d4d263004422e339baf6fc01e5152e6237f43a0017958bae651f", func := "catenary/catenarylaw16.RolesStarts", spec := "rolesStarts", apart := false, narrowed := true }
def RolesStartsUptoSaid : Prop := rolesStartsUptoRow.holds Try.pinned (OpenSpec.upto rolesStartsSpec)

/-- 'catenarylaw17.TransStarts', WHERE WHAT IT READS IS OF BULK AT MOST 1048576: true; the input reads as it did. -/
def transStartsUptoRow : OpenClaim := { program := "ytllkjhnmjhpbnaa", sum := "7693a91a5fb0d4d263004422e339baf6fc01e5152e6237f43a0017958bae651f", func := "catenary/catenarylaw17.TransStarts", spec := "transStarts", unfollowed := true, recurses := true, apart := false, narrowed := true }
def TransStartsUptoSaid : Prop := transStartsUptoRow.holds Try.pinned (OpenSpec.upto transStartsSpec)

/-- 'catenarylaw16.RolesSteps', WHERE WHAT IT READS IS OF BULK AT MOST 1048576: true; the input reads as it did. -/
def rolesStepsUptoRow : OpenClaim := { program := "ytllkjhnmjhpbnaa", sum := "7693a91a5fb0d4d263004422e339baf6fc01e5152e6237f43a0017958bae651f", func := "catenary/catenarylaw16.RolesSteps", spec := "rolesSteps", apart := false, narrowed := true }
def RolesStepsUptoSaid : Prop := rolesStepsUptoRow.holds Try.pinned (OpenSpec.upto rolesStepsSpec)

/-- 'catenarylaw15.InfoNews', WHERE WHAT IT READS IS OF BULK AT MOST 1048576: true; the input reads as it did. -/
def infoNewsUptoRow : OpenClaim := { program := "ytllkjhnmjhpbnaa", sum := "7693a91a5fb0d4d263004422e339baf6fc01e5152e6237f43a0017958bae651f", func := "catenary/catenarylaw15.InfoNews", spec := "infoNews", apart := false, narrowed := true }
def InfoNewsUptoSaid : Prop := infoNewsUptoRow.holds Try.pinned (OpenSpec.upto infoNewsSpec)

/-- 'catenarylaw15.InfoSteps', WHERE WHAT IT READS IS OF BULK AT MOST 1048576: true; the input reads as it did. -/
def infoStepsUptoRow : OpenClaim := { program := "ytllkjhnmjhpbnaa", sum := "7693a91a5fb0d4d263004422e339baf6fc01e5152e6237f43a0017958bae651f", func := "catenary/catenarylaw15.InfoSteps", spec := "infoSteps", unfollowed := true, recurses := true, apart := false, narrowed := true }
def InfoStepsUptoSaid : Prop := infoStepsUptoRow.holds Try.pinned (OpenSpec.upto infoStepsSpec)

/-- 'catenarylaw15.InfoHears', WHERE WHAT IT READS IS OF BULK AT MOST 1048576: true; the input reads as it did. -/
def infoHearsUptoRow : OpenClaim := { program := "ytllkjhnmjhpbnaa", sum := "7693a91a5fb0d4d263004422e339baf6fc01e5152e6237f43a0017958bae651f", func := "catenary/catenarylaw15.InfoHears", spec := "infoHears", apart := false, narrowed := true }
def InfoHearsUptoSaid : Prop := infoHearsUptoRow.holds Try.pinned (OpenSpec.upto infoHearsSpec)

/-- 'catenarylaw15.InfoStarts', WHERE WHAT IT READS IS OF BULK AT MOST 1048576: true; the input reads as it did. -/
def infoStartsUptoRow : OpenClaim := { program := "ytllkjhnmjhpbnaa", sum := "7693a91a5fb0d4d263004422e339baf6fc01e5152e6237f43a0017958bae651f", func := "catenary/catenarylaw15.InfoStarts", spec := "infoStarts", apart := false, narrowed := true }
def InfoStartsUptoSaid : Prop := infoStartsUptoRow.holds Try.pinned (OpenSpec.upto infoStartsSpec)

end Rows
end Go.Proofs.Ytllkjhnmjhpbnaa
