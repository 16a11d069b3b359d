/-
  No cell of these rows narrows 'for every input' (looked for: loops, veiled, ifaces, maps, wideKeys, modest, calm, conditions, laid).
  DERIVED. THE GIVEN ROWS OF THIS SEAT. 7 by the template 'for every input the law returns true; each argument reads behind the call as it read before'; 0 by the template 'total and deterministic' (their statements: YtcebclckjkiofaaTotals.lean).
  GIVEN WITH THE SEED: the statements are not yours to turn. If you find one false, say at which input.
  Laid BY PROGRAM, IN A SANDBOX (cutbox-rows.mjs): the forced cells as the released guide's own fill.sh prints them over the translation 8d7e857d02aafd8c… (all of the seat's roots in one cut). By AI agents, Wed Nov 11 2026. No macro, syntax, notation, axiom, sorry.
-/
import Derived.Test.YtcebclckjkiofaaChecked
import GoSem.Claim
import GoSem.ClaimJoined
import GoSem.ClaimMapViews
import Derived.JoinedTies
import Derived.KernelRfl
namespace Go.Proofs.Ytcebclckjkiofaa
/- THE CELL 'sum', in the pinned program and in every row, IS THE sha256 OF THE DUMP (.gsa) THAT YtcebclckjkiofaaProg.lean LOADS. Nothing in Lean hashes anything: it is a label: what it is worth is what the hold of that sum in a sandbox is worth. -/
noncomputable def Try.pinned : Pinned := { name := "ytcebclckjkiofaa", sum := "8d7e857d02aafd8c5d026e3072bbea44977691e79499077e3715edb59afe3401", checked := Try.checked }
namespace Rows
def none {H : Type} : Left H := { results := [], args := [] }

/-- 'catenarylaw04.EtherSpanning': WHATEVER THE INPUT: true; the input reads as it did. -/
def etherSpanningSpec : ChangeSpec := { name := "etherSpanning", fn := fun _ => fun
  | [d1, d2, d3] => { results := [.lit (.bool true)], args := [d1, d2, d3] }
  | _ => none }
def etherSpanningRow : OpenClaim := { program := "ytcebclckjkiofaa", sum := "8d7e857d02aafd8c5d026e3072bbea44977691e79499077e3715edb59afe3401", func := "catenary/catenarylaw04.EtherSpanning", spec := "etherSpanning", unfollowed := true, recurses := true, plainKeys := false, apart := false }
def EtherSpanningSaid : Prop := etherSpanningRow.holds Try.pinned (OpenSpec.ofChange etherSpanningSpec)

/-- ITS FALSE NEIGHBOUR: 'it returns false'. Refute it at one input. -/
def etherSpanningWrong : ChangeSpec := { name := "etherSpanning", fn := fun _ => fun
  | [d1, d2, d3] => { results := [.lit (.bool false)], args := [d1, d2, d3] }
  | _ => none }
def EtherSpanningWrongFalsely : Prop := etherSpanningRow.holds Try.pinned (OpenSpec.ofChange etherSpanningWrong)

/-- 'catenarylaw04.EtherBytes': WHATEVER THE INPUT: true; the input reads as it did. -/
def etherBytesSpec : ChangeSpec := { name := "etherBytes", fn := fun _ => fun
  | [d] => { results := [.lit (.bool true)], args := [d] }
  | _ => none }
def etherBytesRow : OpenClaim := { program := "ytcebclckjkiofaa", sum := "8d7e857d02aafd8c5d026e3072bbea44977691e79499077e3715edb59afe3401", func := "catenary/catenarylaw04.EtherBytes", spec := "etherBytes", unfollowed := true, recurses := true, plainKeys := false, apart := false }
def EtherBytesSaid : Prop := etherBytesRow.holds Try.pinned (OpenSpec.ofChange etherBytesSpec)

/-- ITS FALSE NEIGHBOUR: 'it returns false'. Refute it at one input. -/
def etherBytesWrong : ChangeSpec := { name := "etherBytes", fn := fun _ => fun
  | [d] => { results := [.lit (.bool false)], args := [d] }
  | _ => none }
def EtherBytesWrongFalsely : Prop := etherBytesRow.holds Try.pinned (OpenSpec.ofChange etherBytesWrong)

/-- 'catenarylaw04.EtherReads': WHATEVER THE INPUT: true; the input reads as it did. -/
def etherReadsSpec : ChangeSpec := { name := "etherReads", fn := fun _ => fun
  | [d] => { results := [.lit (.bool true)], args := [d] }
  | _ => none }
def etherReadsRow : OpenClaim := { program := "ytcebclckjkiofaa", sum := "8d7e857d02aafd8c5d026e3072bbea44977691e79499077e3715edb59afe3401", func := "catenary/catenarylaw04.EtherReads", spec := "etherReads", unfollowed := true, recurses := true, plainKeys := false, apart := false }
def EtherReadsSaid : Prop := etherReadsRow.holds Try.pinned (OpenSpec.ofChange etherReadsSpec)

/-- ITS FALSE NEIGHBOUR: 'it returns false'. Refute it at one input. -/
def etherReadsWrong : ChangeSpec := { name := "etherReads", fn := fun _ => fun
  | [d] => { results := [.lit (.bool false)], args := [d] }
  | _ => none }
def EtherReadsWrongFalsely : Prop := etherReadsRow.holds Try.pinned (OpenSpec.ofChange etherReadsWrong)

/-- 'catenarylaw22.WireNil': WHATEVER THE INPUT: true; the input reads as it did. -/
def wireNilSpec : ChangeSpec := { name := "wireNil", fn := fun _ => fun
  | [d1, d2] => { results := [.lit (.bool true)], args := [d1, d2] }
  | _ => none }
def wireNilRow : OpenClaim := { program := "ytcebclckjkiofaa", sum := "8d7e857d02aafd8c5d026e3072bbea44977691e79499077e3715edb59afe3401", func := "catenary/catenarylaw22.WireNil", spec := "wireNil", plainKeys := false, apart := false }
def WireNilSaid : Prop := wireNilRow.holds Try.pinned (OpenSpec.ofChange wireNilSpec)

/-- ITS FALSE NEIGHBOUR: 'it returns false'. Refute it at one input. -/
def wireNilWrong : ChangeSpec := { name := "wireNil", fn := fun _ => fun
  | [d1, d2] => { results := [.lit (.bool false)], args := [d1, d2] }
  | _ => none }
def WireNilWrongFalsely : Prop := wireNilRow.holds Try.pinned (OpenSpec.ofChange wireNilWrong)

/-- 'catenarylaw07.BpduBytes': WHATEVER THE INPUT: true; the input reads as it did. -/
def bpduBytesSpec : ChangeSpec := { name := "bpduBytes", fn := fun _ => fun
  | [d1, d2] => { results := [.lit (.bool true)], args := [d1, d2] }
  | _ => none }
def bpduBytesRow : OpenClaim := { program := "ytcebclckjkiofaa", sum := "8d7e857d02aafd8c5d026e3072bbea44977691e79499077e3715edb59afe3401", func := "catenary/catenarylaw07.BpduBytes", spec := "bpduBytes", unfollowed := true, recurses := true, plainKeys := false, apart := false }
def BpduBytesSaid : Prop := bpduBytesRow.holds Try.pinned (OpenSpec.ofChange bpduBytesSpec)

/-- ITS FALSE NEIGHBOUR: 'it returns false'. Refute it at one input. -/
def bpduBytesWrong : ChangeSpec := { name := "bpduBytes", fn := fun _ => fun
  | [d1, d2] => { results := [.lit (.bool false)], args := [d1, d2] }
  | _ => none }
def BpduBytesWrongFalsely : Prop := bpduBytesRow.holds Try.pinned (OpenSpec.ofChange bpduBytesWrong)

/-- 'catenarylaw07.BpduReads': WHATEVER THE INPUT: true; the input reads as it did. -/
def bpduReadsSpec : ChangeSpec := { name := "bpduReads", fn := fun _ => fun
  | [d] => { results := [.lit (.bool true)], args := [d] }
  | _ => none }
def bpduReadsRow : OpenClaim := { program := "ytcebclckjkiofaa", sum := "8d7e857d02aafd8c5d026e3072bbea44977691e79499077e3715edb59afe3401", func := "catenary/catenarylaw07.BpduReads", spec := "bpduReads", unfollowed := true, recurses := true, plainKeys := false, apart := false }
def BpduReadsSaid : Prop := bpduReadsRow.holds Try.pinned (OpenSpec.ofChange bpduReadsSpec)

/-- ITS FALSE NEIGHBOUR: 'it returns false'. Refute it at one input. -/
def bpduReadsWrong : ChangeSpec := { name := "bpduReads", fn := fun _ => fun
  | [d] => { results := [.lit (.bool false)], args := [d] }
  | _ => none }
def BpduReadsWrongFalsely : Prop := bpduReadsRow.holds Try.pinned (OpenSpec.ofChange bpduReadsWrong)

/-- 'catenarylaw22.WireActs': WHATEVER THE INPUT: true; the input reads as it did. -/
def wireActsSpec : ChangeSpec := { name := "wireActs", fn := fun _ => fun
  | [d1, d2, d3] => { results := [.lit (.bool true)], args := [d1, d2, d3] }
  | _ => none }
def wireActsRow : OpenClaim := { program := "ytcebclckjkiofaa", sum := "8d7e857d02aafd8c5d026e3072bbea44977691e79499077e3715edb59afe3401", func := "catenary/catenarylaw22.WireActs", spec := "wireActs", plainKeys := false, apart := false }
def WireActsSaid : Prop := wireActsRow.holds Try.pinned (OpenSpec.ofChange wireActsSpec)

/-- ITS FALSE NEIGHBOUR: 'it returns false'. Refute it at one input. -/
def wireActsWrong : ChangeSpec := { name := "wireActs", fn := fun _ => fun
  | [d1, d2, d3] => { results := [.lit (.bool false)], args := [d1, d2, d3] }
  | _ => none }
def WireActsWrongFalsely : Prop := wireActsRow.holds Try.pinned (OpenSpec.ofChange wireActsWrong)

/- THE SECOND FORM. 'bulk': how many values and letters a reading holds, each counted each time it is reached (what is shared counts as often as it is met; a slice's spare places count too). A statement '..UptoSaid' is the law's where the arguments, and the package variables that the reading takes, are together of bulk at most 1048576: NARROWER than '..Said'. Prove '..Said' where nothing that the law and all that it calls make is longer than what came in: it says more and counts as full. Else prove '..UptoSaid'. A law counts once. -/
mutual
def uptoBulk {H : Type} : DataW H → Nat
  | .lit (.string bytes) => bytes.length + 1
  | .lit _ => 1
  | .nil => 1
  | .ptr d => uptoBulk d + 1
  | .slice elems spare => uptoBulkAll elems + uptoBulkAll spare + 1
  | .agg parts => uptoBulkAll parts + 1
  | .iface _ d => uptoBulk d + 1
  | .map entries => uptoBulkEntries entries + 1
  | .held _ => 1
def uptoBulkAll {H : Type} : List (DataW H) → Nat
  | [] => 0
  | d :: r => uptoBulk d + uptoBulkAll r
def uptoBulkEntries {H : Type} : List (Lit × DataW H) → Nat
  | [] => 0
  | x :: r => uptoBulkEntry x + uptoBulkEntries r
def uptoBulkEntry {H : Type} : Lit × DataW H → Nat
  | (.string bytes, d) => bytes.length + uptoBulk d + 1
  | (_, d) => uptoBulk d + 1
 end
def uptoSmall : (H : Type) → List (DataW H) → Bool := fun _ ds => decide (uptoBulkAll ds ≤ 1048576)
def OpenSpec.upto (s : _root_.Go.ChangeSpec) : _root_.Go.OpenSpec := { _root_.Go.OpenSpec.ofChange s with cond := some uptoSmall }

/-- 'catenarylaw04.EtherSpanning', WHERE WHAT IT READS IS OF BULK AT MOST 1048576: true; the input reads as it did. -/
def etherSpanningUptoRow : OpenClaim := { program := "ytcebclckjkiofaa", sum := "8d7e857d02aafd8c5d026e3072bbea44977691e79499077e3715edb59afe3401", func := "catenary/catenarylaw04.EtherSpanning", spec := "etherSpanning", unfollowed := true, recurses := true, plainKeys := false, apart := false, narrowed := true }
def EtherSpanningUptoSaid : Prop := etherSpanningUptoRow.holds Try.pinned (OpenSpec.upto etherSpanningSpec)

/-- 'catenarylaw04.EtherBytes', WHERE WHAT IT READS IS OF BULK AT MOST 1048576: true; the input reads as it did. -/
def etherBytesUptoRow : OpenClaim := { program := "ytcebclckjkiofaa", sum := "8d7e857d02aafd8c5d026e3072bbea44977691e79499077e3715edb59afe3401", func := "catenary/catenarylaw04.EtherBytes", spec := "etherBytes", unfollowed := true, recurses := true, plainKeys := false, apart := false, narrowed := true }
def EtherBytesUptoSaid : Prop := etherBytesUptoRow.holds Try.pinned (OpenSpec.upto etherBytesSpec)

/-- 'catenarylaw04.EtherReads', WHERE WHAT IT READS IS OF BULK AT MOST 1048576: true; the input reads as it did. -/
def etherReadsUptoRow : OpenClaim := { program := "ytcebclckjkiofaa", sum := "8d7e857d02aafd8c5d026e3072bbea44977691e79499077e3715edb59afe3401", func := "catenary/catenarylaw04.EtherReads", spec := "etherReads", unfollowed := true, recurses := true, plainKeys := false, apart := false, narrowed := true }
def EtherReadsUptoSaid : Prop := etherReadsUptoRow.holds Try.pinned (OpenSpec.upto etherReadsSpec)

/-- 'catenarylaw22.WireNil', WHERE WHAT IT READS IS OF BULK AT MOST 1048576: true; the input reads as it did. -/
def wireNilUptoRow : OpenClaim := { program := "ytcebclckjkiofaa", sum := "8d7e857d02aafd8c5d026e3072bbea44977691e79499077e3715edb59afe3401", func := "catenary/catenarylaw22.WireNil", spec := "wireNil", plainKeys := false, apart := false, narrowed := true }
def WireNilUptoSaid : Prop := wireNilUptoRow.holds Try.pinned (OpenSpec.upto wireNilSpec)

/-- 'catenarylaw07.BpduBytes', WHERE WHAT IT READS IS OF BULK AT MOST 1048576: true; the input reads as it did. -/
def bpduBytesUptoRow : OpenClaim := { program := "ytcebclckjkiofaa", sum := "8d7e857d02aafd8c5d026e3072bbea44977691e79499077e3715edb59afe3401", func := "catenary/catenarylaw07.BpduBytes", spec := "bpduBytes", unfollowed := true, recurses := true, plainKeys := false, apart := false, narrowed := true }
def BpduBytesUptoSaid : Prop := bpduBytesUptoRow.holds Try.pinned (OpenSpec.upto bpduBytesSpec)

/-- 'catenarylaw07.BpduReads', WHERE WHAT IT READS IS OF BULK AT MOST 1048576: true; the input reads as it did. -/
def bpduReadsUptoRow : OpenClaim := { program := "ytcebclckjkiofaa", sum := "8d7e857d02aafd8c5d026e3072bbea44977691e79499077e3715edb59afe3401", func := "catenary/catenarylaw07.BpduReads", spec := "bpduReads", unfollowed := true, recurses := true, plainKeys := false, apart := false, narrowed := true }
def BpduReadsUptoSaid : Prop := bpduReadsUptoRow.holds Try.pinned (OpenSpec.upto bpduReadsSpec)

/-- 'catenarylaw22.WireActs', WHERE WHAT IT READS IS OF BULK AT MOST 1048576: true; the input reads as it did. -/
def wireActsUptoRow : OpenClaim := { program := "ytcebclckjkiofaa", sum := "8d7e857d02aafd8c5d026e3072bbea44977691e79499077e3715edb59afe3401", func := "catenary/catenarylaw22.WireActs", spec := "wireActs", plainKeys := false, apart := false, narrowed := true }
def WireActsUptoSaid : Prop := wireActsUptoRow.holds Try.pinned (OpenSpec.upto wireActsSpec)

end Rows
end Go.Proofs.Ytcebclckjkiofaa
