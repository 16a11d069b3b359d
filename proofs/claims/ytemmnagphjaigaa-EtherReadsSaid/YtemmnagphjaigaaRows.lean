/-
  No cell of these rows narrows 'for every input' (looked for: loops, veiled, ifaces, maps, wideKeys, modest, calm, conditions, laid).
  DERIVED. THE GIVEN ROWS OF THIS SEAT. 4 by the template 'for every input the law returns true; each argument reads behind the call as it read before'; 0 by the template 'total and deterministic' (their statements: YtemmnagphjaigaaTotals.lean).
  GIVEN WITH THE SEED: the statements are not yours to turn. If you find one false, say at which input.
  Laid BY PROGRAM, IN A SANDBOX (cutbox-rows.mjs): the forced cells as the released guide's own fill.sh prints them over the translation 2993567dd6d1305d… (all of the seat's roots in one cut). By AI agents, Wed Nov 11 2026. No macro, syntax, notation, axiom, sorry.
-/
import Derived.Test.YtemmnagphjaigaaChecked
import GoSem.Claim
import GoSem.ClaimJoined
import GoSem.ClaimMapViews
import Derived.JoinedTies
import Derived.KernelRfl
namespace Go.Proofs.Ytemmnagphjaigaa
/- THE CELL 'sum', in the pinned program and in every row, IS THE sha256 OF THE DUMP (.gsa) THAT YtemmnagphjaigaaProg.lean LOADS. Nothing in Lean hashes anything: it is a label: what it is worth is what the hold of that sum in a sandbox is worth. -/
noncomputable def Try.pinned : Pinned := { name := "ytemmnagphjaigaa", sum := "2993567dd6d1305d624b3ef2be3e62979a8a6a2a4be1e4f90e6bef57da2dfd07", checked := Try.checked }
namespace Rows
def none {H : Type} : Left H := { results := [], args := [] }

/-- 'catenarylaw07.BpduBytes': WHATEVER THE INPUT: true; the input reads as it did. -/
def bpduBytesSpec : ChangeSpec := { name := "bpduBytes", fn := fun _ => fun
  | [d1, d2] => { results := [.lit (.bool true)], args := [d1, d2] }
  | _ => none }
def bpduBytesRow : OpenClaim := { program := "ytemmnagphjaigaa", sum := "2993567dd6d1305d624b3ef2be3e62979a8a6a2a4be1e4f90e6bef57da2dfd07", func := "catenary/catenarylaw07.BpduBytes", spec := "bpduBytes", unfollowed := true, recurses := true, apart := false }
def BpduBytesSaid : Prop := bpduBytesRow.holds Try.pinned (OpenSpec.ofChange bpduBytesSpec)

/-- ITS FALSE NEIGHBOUR: 'it returns false'. Refute it at one input. -/
def bpduBytesWrong : ChangeSpec := { name := "bpduBytes", fn := fun _ => fun
  | [d1, d2] => { results := [.lit (.bool false)], args := [d1, d2] }
  | _ => none }
def BpduBytesWrongFalsely : Prop := bpduBytesRow.holds Try.pinned (OpenSpec.ofChange bpduBytesWrong)

/-- 'catenarylaw04.EtherSpanning': WHATEVER THE INPUT: true; the input reads as it did. -/
def etherSpanningSpec : ChangeSpec := { name := "etherSpanning", fn := fun _ => fun
  | [d1, d2, d3] => { results := [.lit (.bool true)], args := [d1, d2, d3] }
  | _ => none }
def etherSpanningRow : OpenClaim := { program := "ytemmnagphjaigaa", sum := "2993567dd6d1305d624b3ef2be3e62979a8a6a2a4be1e4f90e6bef57da2dfd07", func := "catenary/catenarylaw04.EtherSpanning", spec := "etherSpanning", unfollowed := true, recurses := true, apart := false }
def EtherSpanningSaid : Prop := etherSpanningRow.holds Try.pinned (OpenSpec.ofChange etherSpanningSpec)

/-- ITS FALSE NEIGHBOUR: 'it returns false'. Refute it at one input. -/
def etherSpanningWrong : ChangeSpec := { name := "etherSpanning", fn := fun _ => fun
  | [d1, d2, d3] => { results := [.lit (.bool false)], args := [d1, d2, d3] }
  | _ => none }
def EtherSpanningWrongFalsely : Prop := etherSpanningRow.holds Try.pinned (OpenSpec.ofChange etherSpanningWrong)

/-- 'catenarylaw04.EtherReads': WHATEVER THE INPUT: true; the input reads as it did. -/
def etherReadsSpec : ChangeSpec := { name := "etherReads", fn := fun _ => fun
  | [d] => { results := [.lit (.bool true)], args := [d] }
  | _ => none }
def etherReadsRow : OpenClaim := { program := "ytemmnagphjaigaa", sum := "2993567dd6d1305d624b3ef2be3e62979a8a6a2a4be1e4f90e6bef57da2dfd07", func := "catenary/catenarylaw04.EtherReads", spec := "etherReads", unfollowed := true, recurses := true, apart := false }
def EtherReadsSaid : Prop := etherReadsRow.holds Try.pinned (OpenSpec.ofChange etherReadsSpec)

/-- ITS FALSE NEIGHBOUR: 'it returns false'. Refute it at one input. -/
def etherReadsWrong : ChangeSpec := { name := "etherReads", fn := fun _ => fun
  | [d] => { results := [.lit (.bool false)], args := [d] }
  | _ => none }
def EtherReadsWrongFalsely : Prop := etherReadsRow.holds Try.pinned (OpenSpec.ofChange etherReadsWrong)

/-- 'catenarylaw04.EtherBytes': WHATEVER THE INPUT: true; the input reads as it did. -/
def etherBytesSpec : ChangeSpec := { name := "etherBytes", fn := fun _ => fun
  | [d] => { results := [.lit (.bool true)], args := [d] }
  | _ => none }
def etherBytesRow : OpenClaim := { program := "ytemmnagphjaigaa", sum := "2993567dd6d1305d624b3ef2be3e62979a8a6a2a4be1e4f90e6bef57da2dfd07", func := "catenary/catenarylaw04.EtherBytes", spec := "etherBytes", unfollowed := true, recurses := true, apart := false }
def EtherBytesSaid : Prop := etherBytesRow.holds Try.pinned (OpenSpec.ofChange etherBytesSpec)

/-- ITS FALSE NEIGHBOUR: 'it returns false'. Refute it at one input. -/
def etherBytesWrong : ChangeSpec := { name := "etherBytes", fn := fun _ => fun
  | [d] => { results := [.lit (.bool false)], args := [d] }
  | _ => none }
def EtherBytesWrongFalsely : Prop := etherBytesRow.holds Try.pinned (OpenSpec.ofChange etherBytesWrong)

/- THE SECOND FORM. 'bulk': how many values and letters a reading holds, each counted each time it is reached (what is shared counts as often as it is met; a slice's spare places count too). A statement '..UptoSaid' is the law's where the arguments, and the package variables that the reading takes, are together of bulk at most 1048576: NARROWER than '..Said'. Prove '..Said' where nothing that the law and all that it calls make is longer than what came in: it says more and counts as full. Else prove '..UptoSaid'. A law counts once. -/
mutual
def uptoBulk {H : Type} : DataW H → Nat
  | .lit (.string bytes) => bytes.length + 1
  | .lit _ => 1
  | .nil => 1
  | .ptr d => uptoBulk d + 1
  | .slice elems spare => uptoBulkAll elems + uptoBulkAll spare + 1
  | .agg parts => uptoBulkAll parts + 1
  | .iface _ d => uptoBulk d + 1
  | .map entries => uptoBulkEntries entries + 1
  | .held _ => 1
def uptoBulkAll {H : Type} : List (DataW H) → Nat
  | [] => 0
  | d :: r => uptoBulk d + uptoBulkAll r
def uptoBulkEntries {H : Type} : List (Lit × DataW H) → Nat
  | [] => 0
  | x :: r => uptoBulkEntry x + uptoBulkEntries r
def uptoBulkEntry {H : Type} : Lit × DataW H → Nat
  | (.string bytes, d) => bytes.length + uptoBulk d + 1
  | (_, d) => uptoBulk d + 1
 end
def uptoSmall : (H : Type) → List (DataW H) → Bool := fun _ ds => decide (uptoBulkAll ds ≤ 1048576)
def OpenSpec.upto (s : _root_.Go.ChangeSpec) : _root_.Go.OpenSpec := { _root_.Go.OpenSpec.ofChange s with cond := some uptoSmall }

/-- 'catenarylaw07.BpduBytes', WHERE WHAT IT READS IS OF BULK AT MOST 1048576: true; the input reads as it did. -/
def bpduBytesUptoRow : OpenClaim := { program := "ytemmnagphjaigaa", sum := "2993567dd6d1305d624b3ef2be3e62979a8a6a2a4be1e4f90e6bef57da2dfd07", func := "catenary/catenarylaw07.BpduBytes", spec := "bpduBytes", unfollowed := true, recurses := true, apart := false, narrowed := true }
def BpduBytesUptoSaid : Prop := bpduBytesUptoRow.holds Try.pinned (OpenSpec.upto bpduBytesSpec)

/-- 'catenarylaw04.EtherSpanning', WHERE WHAT IT READS IS OF BULK AT MOST 1048576: true; the input reads as it did. -/
def etherSpanningUptoRow : OpenClaim := { program := "ytemmnagphjaigaa", sum := "2993567dd6d1305d624b3ef2be3e62979a8a6a2a4be1e4f90e6bef57da2dfd07", func := "catenary/catenarylaw04.EtherSpanning", spec := "etherSpanning", unfollowed := true, recurses := true, apart := false, narrowed := true }
def EtherSpanningUptoSaid : Prop := etherSpanningUptoRow.holds Try.pinned (OpenSpec.upto etherSpanningSpec)

/-- 'catenarylaw04.EtherReads', WHERE WHAT IT READS IS OF BULK AT MOST 1048576: true; the input reads as it did. -/
def etherReadsUptoRow : OpenClaim := { program := "ytemmnagphjaigaa", sum := "2993567dd6d1305d624b3ef2be3e62979a8a6a2a4be1e4f90e6bef57da2dfd07", func := "catenary/catenarylaw04.EtherReads", spec := "etherReads", unfollowed := true, recurses := true, apart := false, narrowed := true }
def EtherReadsUptoSaid : Prop := etherReadsUptoRow.holds Try.pinned (OpenSpec.upto etherReadsSpec)

/-- 'catenarylaw04.EtherBytes', WHERE WHAT IT READS IS OF BULK AT MOST 1048576: true; the input reads as it did. -/
def etherBytesUptoRow : OpenClaim := { program := "ytemmnagphjaigaa", sum := "2993567dd6d1305d624b3ef2be3e62979a8a6a2a4be1e4f90e6bef57da2dfd07", func := "catenary/catenarylaw04.EtherBytes", spec := "etherBytes", unfollowed := true, recurses := true, apart := false, narrowed := true }
def EtherBytesUptoSaid : Prop := etherBytesUptoRow.holds Try.pinned (OpenSpec.upto etherBytesSpec)

end Rows
end Go.Proofs.Ytemmnagphjaigaa
