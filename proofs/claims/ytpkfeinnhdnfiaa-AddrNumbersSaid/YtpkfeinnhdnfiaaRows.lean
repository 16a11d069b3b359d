/-
  No cell of these rows narrows 'for every input' (looked for: loops, veiled, ifaces, maps, wideKeys, modest, calm, conditions, laid).
  DERIVED. THE GIVEN ROWS OF THIS SEAT. 9 by the template 'for every input the law returns true; each argument reads behind the call as it read before'; 0 by the template 'total and deterministic' (their statements: YtpkfeinnhdnfiaaTotals.lean).
  GIVEN WITH THE SEED: the statements are not yours to turn. If you find one false, say at which input.
  Laid BY PROGRAM, IN A SANDBOX (cutbox-rows.mjs): the forced cells as the released guide's own fill.sh prints them over the translation 895ea184152fc364… (all of the seat's roots in one cut). By AI agents, Wed Nov 11 2026. No macro, syntax, notation, axiom, sorry.
-/
import Derived.Test.YtpkfeinnhdnfiaaChecked
import GoSem.Claim
import GoSem.ClaimJoined
import GoSem.ClaimMapViews
import Derived.JoinedTies
import Derived.KernelRfl
namespace Go.Proofs.Ytpkfeinnhdnfiaa
/- THE CELL 'sum', in the pinned program and in every row, IS THE sha256 OF THE DUMP (.gsa) THAT YtpkfeinnhdnfiaaProg.lean LOADS. Nothing in Lean hashes anything: it is a label: what it is worth is what the hold of that sum in a sandbox is worth. -/
noncomputable def Try.pinned : Pinned := { name := "ytpkfeinnhdnfiaa", sum := "895ea184152fc364cba9fdfd310db26391e312fcff7eaf1bb24d860e6e05ee57", checked := Try.checked }
namespace Rows
def none {H : Type} : Left H := { results := [], args := [] }

/-- 'catenarylaw06.TimesChecks': WHATEVER THE INPUT: true; the input reads as it did. -/
def timesChecksSpec : ChangeSpec := { name := "timesChecks", fn := fun _ => fun
  | [d] => { results := [.lit (.bool true)], args := [d] }
  | _ => none }
def timesChecksRow : OpenClaim := { program := "ytpkfeinnhdnfiaa", sum := "895ea184152fc364cba9fdfd310db26391e312fcff7eaf1bb24d860e6e05ee57", func := "catenary/catenarylaw06.TimesChecks", spec := "timesChecks", apart := false }
def TimesChecksSaid : Prop := timesChecksRow.holds Try.pinned (OpenSpec.ofChange timesChecksSpec)

/-- ITS FALSE NEIGHBOUR: 'it returns false'. Refute it at one input. -/
def timesChecksWrong : ChangeSpec := { name := "timesChecks", fn := fun _ => fun
  | [d] => { results := [.lit (.bool false)], args := [d] }
  | _ => none }
def TimesChecksWrongFalsely : Prop := timesChecksRow.holds Try.pinned (OpenSpec.ofChange timesChecksWrong)

/-- 'catenarylaw03.OctetPanics': WHATEVER THE INPUT: true; the input reads as it did. -/
def octetPanicsSpec : ChangeSpec := { name := "octetPanics", fn := fun _ => fun
  | [d1, d2] => { results := [.lit (.bool true)], args := [d1, d2] }
  | _ => none }
def octetPanicsRow : OpenClaim := { program := "ytpkfeinnhdnfiaa", sum := "895ea184152fc364cba9fdfd310db26391e312fcff7eaf1bb24d860e6e05ee57", func := "catenary/catenarylaw03.OctetPanics", spec := "octetPanics", unfollowed := true, recurses := true, apart := false }
def OctetPanicsSaid : Prop := octetPanicsRow.holds Try.pinned (OpenSpec.ofChange octetPanicsSpec)

/-- ITS FALSE NEIGHBOUR: 'it returns false'. Refute it at one input. -/
def octetPanicsWrong : ChangeSpec := { name := "octetPanics", fn := fun _ => fun
  | [d1, d2] => { results := [.lit (.bool false)], args := [d1, d2] }
  | _ => none }
def OctetPanicsWrongFalsely : Prop := octetPanicsRow.holds Try.pinned (OpenSpec.ofChange octetPanicsWrong)

/-- 'catenarylaw02.AddrTexts': WHATEVER THE INPUT: true; the input reads as it did. -/
def addrTextsSpec : ChangeSpec := { name := "addrTexts", fn := fun _ => fun
  | [d] => { results := [.lit (.bool true)], args := [d] }
  | _ => none }
def addrTextsRow : OpenClaim := { program := "ytpkfeinnhdnfiaa", sum := "895ea184152fc364cba9fdfd310db26391e312fcff7eaf1bb24d860e6e05ee57", func := "catenary/catenarylaw02.AddrTexts", spec := "addrTexts", unfollowed := true, recurses := true, apart := false }
def AddrTextsSaid : Prop := addrTextsRow.holds Try.pinned (OpenSpec.ofChange addrTextsSpec)

/-- ITS FALSE NEIGHBOUR: 'it returns false'. Refute it at one input. -/
def addrTextsWrong : ChangeSpec := { name := "addrTexts", fn := fun _ => fun
  | [d] => { results := [.lit (.bool false)], args := [d] }
  | _ => none }
def AddrTextsWrongFalsely : Prop := addrTextsRow.holds Try.pinned (OpenSpec.ofChange addrTextsWrong)

/-- 'catenarylaw08.VectorSums': WHATEVER THE INPUT: true; the input reads as it did. -/
def vectorSumsSpec : ChangeSpec := { name := "vectorSums", fn := fun _ => fun
  | [d1, d2, d3] => { results := [.lit (.bool true)], args := [d1, d2, d3] }
  | _ => none }
def vectorSumsRow : OpenClaim := { program := "ytpkfeinnhdnfiaa", sum := "895ea184152fc364cba9fdfd310db26391e312fcff7eaf1bb24d860e6e05ee57", func := "catenary/catenarylaw08.VectorSums", spec := "vectorSums", apart := false }
def VectorSumsSaid : Prop := vectorSumsRow.holds Try.pinned (OpenSpec.ofChange vectorSumsSpec)

/-- ITS FALSE NEIGHBOUR: 'it returns false'. Refute it at one input. -/
def vectorSumsWrong : ChangeSpec := { name := "vectorSums", fn := fun _ => fun
  | [d1, d2, d3] => { results := [.lit (.bool false)], args := [d1, d2, d3] }
  | _ => none }
def VectorSumsWrongFalsely : Prop := vectorSumsRow.holds Try.pinned (OpenSpec.ofChange vectorSumsWrong)

/-- 'catenarylaw08.VectorBest': WHATEVER THE INPUT: true; the input reads as it did. -/
def vectorBestSpec : ChangeSpec := { name := "vectorBest", fn := fun _ => fun
  | [d1, d2] => { results := [.lit (.bool true)], args := [d1, d2] }
  | _ => none }
def vectorBestRow : OpenClaim := { program := "ytpkfeinnhdnfiaa", sum := "895ea184152fc364cba9fdfd310db26391e312fcff7eaf1bb24d860e6e05ee57", func := "catenary/catenarylaw08.VectorBest", spec := "vectorBest", apart := false }
def VectorBestSaid : Prop := vectorBestRow.holds Try.pinned (OpenSpec.ofChange vectorBestSpec)

/-- ITS FALSE NEIGHBOUR: 'it returns false'. Refute it at one input. -/
def vectorBestWrong : ChangeSpec := { name := "vectorBest", fn := fun _ => fun
  | [d1, d2] => { results := [.lit (.bool false)], args := [d1, d2] }
  | _ => none }
def VectorBestWrongFalsely : Prop := vectorBestRow.holds Try.pinned (OpenSpec.ofChange vectorBestWrong)

/-- 'catenarylaw08.VectorOrder': WHATEVER THE INPUT: true; the input reads as it did. -/
def vectorOrderSpec : ChangeSpec := { name := "vectorOrder", fn := fun _ => fun
  | [d1, d2, d3] => { results := [.lit (.bool true)], args := [d1, d2, d3] }
  | _ => none }
def vectorOrderRow : OpenClaim := { program := "ytpkfeinnhdnfiaa", sum := "895ea184152fc364cba9fdfd310db26391e312fcff7eaf1bb24d860e6e05ee57", func := "catenary/catenarylaw08.VectorOrder", spec := "vectorOrder", apart := false }
def VectorOrderSaid : Prop := vectorOrderRow.holds Try.pinned (OpenSpec.ofChange vectorOrderSpec)

/-- ITS FALSE NEIGHBOUR: 'it returns false'. Refute it at one input. -/
def vectorOrderWrong : ChangeSpec := { name := "vectorOrder", fn := fun _ => fun
  | [d1, d2, d3] => { results := [.lit (.bool false)], args := [d1, d2, d3] }
  | _ => none }
def VectorOrderWrongFalsely : Prop := vectorOrderRow.holds Try.pinned (OpenSpec.ofChange vectorOrderWrong)

/-- 'catenarylaw07.BpduRoles': WHATEVER THE INPUT: true; the input reads as it did. -/
def bpduRolesSpec : ChangeSpec := { name := "bpduRoles", fn := fun _ => fun
  | [d1, d2] => { results := [.lit (.bool true)], args := [d1, d2] }
  | _ => none }
def bpduRolesRow : OpenClaim := { program := "ytpkfeinnhdnfiaa", sum := "895ea184152fc364cba9fdfd310db26391e312fcff7eaf1bb24d860e6e05ee57", func := "catenary/catenarylaw07.BpduRoles", spec := "bpduRoles", apart := false }
def BpduRolesSaid : Prop := bpduRolesRow.holds Try.pinned (OpenSpec.ofChange bpduRolesSpec)

/-- ITS FALSE NEIGHBOUR: 'it returns false'. Refute it at one input. -/
def bpduRolesWrong : ChangeSpec := { name := "bpduRoles", fn := fun _ => fun
  | [d1, d2] => { results := [.lit (.bool false)], args := [d1, d2] }
  | _ => none }
def BpduRolesWrongFalsely : Prop := bpduRolesRow.holds Try.pinned (OpenSpec.ofChange bpduRolesWrong)

/-- 'catenarylaw02.AddrNumbers': WHATEVER THE INPUT: true; the input reads as it did. -/
def addrNumbersSpec : ChangeSpec := { name := "addrNumbers", fn := fun _ => fun
  | [d1, d2, d3] => { results := [.lit (.bool true)], args := [d1, d2, d3] }
  | _ => none }
def addrNumbersRow : OpenClaim := { program := "ytpkfeinnhdnfiaa", sum := "895ea184152fc364cba9fdfd310db26391e312fcff7eaf1bb24d860e6e05ee57", func := "catenary/catenarylaw02.AddrNumbers", spec := "addrNumbers", unfollowed := true, recurses := true, apart := false }
def AddrNumbersSaid : Prop := addrNumbersRow.holds Try.pinned (OpenSpec.ofChange addrNumbersSpec)

/-- ITS FALSE NEIGHBOUR: 'it returns false'. Refute it at one input. -/
def addrNumbersWrong : ChangeSpec := { name := "addrNumbers", fn := fun _ => fun
  | [d1, d2, d3] => { results := [.lit (.bool false)], args := [d1, d2, d3] }
  | _ => none }
def AddrNumbersWrongFalsely : Prop := addrNumbersRow.holds Try.pinned (OpenSpec.ofChange addrNumbersWrong)

/-- 'catenarylaw10.FdbNil': WHATEVER THE INPUT: true; the input reads as it did. -/
def fdbNilSpec : ChangeSpec := { name := "fdbNil", fn := fun _ => fun
  | [d1, d2] => { results := [.lit (.bool true)], args := [d1, d2] }
  | _ => none }
def fdbNilRow : OpenClaim := { program := "ytpkfeinnhdnfiaa", sum := "895ea184152fc364cba9fdfd310db26391e312fcff7eaf1bb24d860e6e05ee57", func := "catenary/catenarylaw10.FdbNil", spec := "fdbNil", unfollowed := true, recurses := true, apart := false }
def FdbNilSaid : Prop := fdbNilRow.holds Try.pinned (OpenSpec.ofChange fdbNilSpec)

/-- ITS FALSE NEIGHBOUR: 'it returns false'. Refute it at one input. -/
def fdbNilWrong : ChangeSpec := { name := "fdbNil", fn := fun _ => fun
  | [d1, d2] => { results := [.lit (.bool false)], args := [d1, d2] }
  | _ => none }
def FdbNilWrongFalsely : Prop := fdbNilRow.holds Try.pinned (OpenSpec.ofChange fdbNilWrong)

/- THE SECOND FORM. 'bulk': how many values and letters a reading holds, each counted each time it is reached (what is shared counts as often as it is met; a slice's spare places count too). A statement '..UptoSaid' is the law's where the arguments, and the package variables that the reading takes, are together of bulk at most 1048576: NARROWER than '..Said'. Prove '..Said' where nothing that the law and all that it calls make is longer than what came in: it says more and counts as full. Else prove '..UptoSaid'. A law counts once. -/
mutual
def uptoBulk {H : Type} : DataW H → Nat
  | .lit (.string bytes) => bytes.length + 1
  | .lit _ => 1
  | .nil => 1
  | .ptr d => uptoBulk d + 1
  | .slice elems spare => uptoBulkAll elems + uptoBulkAll spare + 1
  | .agg parts => uptoBulkAll parts + 1
  | .iface _ d => uptoBulk d + 1
  | .map entries => uptoBulkEntries entries + 1
  | .held _ => 1
def uptoBulkAll {H : Type} : List (DataW H) → Nat
  | [] => 0
  | d :: r => uptoBulk d + uptoBulkAll r
def uptoBulkEntries {H : Type} : List (Lit × DataW H) → Nat
  | [] => 0
  | x :: r => uptoBulkEntry x + uptoBulkEntries r
def uptoBulkEntry {H : Type} : Lit × DataW H → Nat
  | (.string bytes, d) => bytes.length + uptoBulk d + 1
  | (_, d) => uptoBulk d + 1
 end
def uptoSmall : (H : Type) → List (DataW H) → Bool := fun _ ds => decide (uptoBulkAll ds ≤ 1048576)
def OpenSpec.upto (s : _root_.Go.ChangeSpec) : _root_.Go.OpenSpec := { _root_.Go.OpenSpec.ofChange s with cond := some uptoSmall }

/-- 'catenarylaw06.TimesChecks', WHERE WHAT IT READS IS OF BULK AT MOST 1048576: true; the input reads as it did. -/
def timesChecksUptoRow : OpenClaim := { program := "ytpkfeinnhdnfiaa", sum := "895ea184152fc364cba9fdfd310db26391e312fcff7eaf1bb24d860e6e05ee57", func := "catenary/catenarylaw06.TimesChecks", spec := "timesChecks", apart := false, narrowed := true }
def TimesChecksUptoSaid : Prop := timesChecksUptoRow.holds Try.pinned (OpenSpec.upto timesChecksSpec)

/-- 'catenarylaw03.OctetPanics', WHERE WHAT IT READS IS OF BULK AT MOST 1048576: true; the input reads as it did. -/
def octetPanicsUptoRow : OpenClaim := { program := "ytpkfeinnhdnfiaa", sum := "895ea184152fc364cba9fdfd310db26391e312fcff7eaf1bb24d860e6e05ee57", func := "catenary/catenarylaw03.OctetPanics", spec := "octetPanics", unfollowed := true, recurses := true, apart := false, narrowed := true }
def OctetPanicsUptoSaid : Prop := octetPanicsUptoRow.holds Try.pinned (OpenSpec.upto octetPanicsSpec)

/-- 'catenarylaw02.AddrTexts', WHERE WHAT IT READS IS OF BULK AT MOST 1048576: true; the input reads as it did. -/
def addrTextsUptoRow : OpenClaim := { program := "ytpkfeinnhdnfiaa", sum := "895ea184152fc364cba9fdfd310db26391e312fcff7eaf1bb24d860e6e05ee57", func := "catenary/catenarylaw02.AddrTexts", spec := "addrTexts", unfollowed := true, recurses := true, apart := false, narrowed := true }
def AddrTextsUptoSaid : Prop := addrTextsUptoRow.holds Try.pinned (OpenSpec.upto addrTextsSpec)

/-- 'catenarylaw08.VectorSums', WHERE WHAT IT READS IS OF BULK AT MOST 1048576: true; the input reads as it did. -/
def vectorSumsUptoRow : OpenClaim := { program := "ytpkfeinnhdnfiaa", sum := "895ea184152fc364cba9fdfd310db26391e312fcff7eaf1bb24d860e6e05ee57", func := "catenary/catenarylaw08.VectorSums", spec := "vectorSums", apart := false, narrowed := true }
def VectorSumsUptoSaid : Prop := vectorSumsUptoRow.holds Try.pinned (OpenSpec.upto vectorSumsSpec)

/-- 'catenarylaw08.VectorBest', WHERE WHAT IT READS IS OF BULK AT MOST 1048576: true; the input reads as it did. -/
def vectorBestUptoRow : OpenClaim := { program := "ytpkfeinnhdnfiaa", sum := "895ea184152fc364cba9fdfd310db26391e312fcff7eaf1bb24d860e6e05ee57", func := "catenary/catenarylaw08.VectorBest", spec := "vectorBest", apart := false, narrowed := true }
def VectorBestUptoSaid : Prop := vectorBestUptoRow.holds Try.pinned (OpenSpec.upto vectorBestSpec)

/-- 'catenarylaw08.VectorOrder', WHERE WHAT IT READS IS OF BULK AT MOST 1048576: true; the input reads as it did. -/
def vectorOrderUptoRow : OpenClaim := { program := "ytpkfeinnhdnfiaa", sum := "895ea184152fc364cba9fdfd310db26391e312fcff7eaf1bb24d860e6e05ee57", func := "catenary/catenarylaw08.VectorOrder", spec := "vectorOrder", apart := false, narrowed := true }
def VectorOrderUptoSaid : Prop := vectorOrderUptoRow.holds Try.pinned (OpenSpec.upto vectorOrderSpec)

/-- 'catenarylaw07.BpduRoles', WHERE WHAT IT READS IS OF BULK AT MOST 1048576: true; the input reads as it did. -/
def bpduRolesUptoRow : OpenClaim := { program := "ytpkfeinnhdnfiaa", sum := "895ea184152fc364cba9fdfd310db26391e312fcff7eaf1bb24d860e6e05ee57", func := "catenary/catenarylaw07.BpduRoles", spec := "bpduRoles", apart := false, narrowed := true }
def BpduRolesUptoSaid : Prop := bpduRolesUptoRow.holds Try.pinned (OpenSpec.upto bpduRolesSpec)

/-- 'catenarylaw02.AddrNumbers', WHERE WHAT IT READS IS OF BULK AT MOST 1048576: true; the input reads as it did. -/
def addrNumbersUptoRow : OpenClaim := { program := "ytpkfeinnhdnfiaa", sum := "895ea184152fc364cba9fdfd310db26391e312fcff7eaf1bb24d860e6e05ee57", func := "catenary/catenarylaw02.AddrNumbers", spec := "addrNumbers", unfollowed := true, recurses := true, apart := false, narrowed := true }
def AddrNumbersUptoSaid : Prop := addrNumbersUptoRow.holds Try.pinned (OpenSpec.upto addrNumbersSpec)

/-- 'catenarylaw10.FdbNil', WHERE WHAT IT READS IS OF BULK AT MOST 1048576: true; the input reads as it did. -/
def fdbNilUptoRow : OpenClaim := { program := "ytpkfeinnhdnfiaa", sum := "895ea184152fc364cba9fdfd310db26391e312fcff7eaf1bb24d860e6e05ee57", func := "catenary/catenarylaw10.FdbNil", spec := "fdbNil", unfollowed := true, recurses := true, apart := false, narrowed := true }
def FdbNilUptoSaid : Prop := fdbNilUptoRow.holds Try.pinned (OpenSpec.upto fdbNilSpec)

end Rows
end Go.Proofs.Ytpkfeinnhdnfiaa
