/-
  DERIVED. GIVEN WITH THE SEED: THE CARDS: each row of YtlpjldhkkjicgaaDoorRows.lean that lists a variable, with what it lists TIED to the program's text (the seventh form; the later family's looks); each row that meets fmt, with fmt's text TOLD by the authors' own Lean function (tested against real Go, not proved from fmt's source: count such statements apart). THE CARD IS WHAT COUNTS. Prove the row's statement (the work); the ties are given (YtlpjldhkkjicgaaDoorTie.lean); close each card by the builder's one call (the guide's Derived/Test/ToyasCard.lean, 'card_holds'). Laid BY PROGRAM, IN A SANDBOX (cutbox-door.mjs). By AI agents, Wed Nov 11 2026. No macro, syntax, notation, axiom, sorry.
-/
import Derived.Test.YtlpjldhkkjicgaaDoorRows
import GoSem.ClaimSeven
namespace Go.Proofs.YtlpjldhkkjicgaaDoor
namespace Rows

/-- THE TIED CARD OF 'catenarylaw05.IdentPorts'. -/
def identPortsCard : Claim7 := { stood := { row := identPortsRow, standIns := [], harness := (true, "541f256a7d6095bf92e4ff350ac22834994858f41289e64fc3729a96a2966d1b"), looks := true }, kinds := [], alts := [], laidByText := true, laidKinds := [.data, .data, .data], laidTests := true, laidLooks := .later }
def IdentPortsCardSaid : Prop := Claim7.holds Tryd.pinned (.plain (OpenSpec.ofChange identPortsSpec)) identPortsCard

/-- THE TIED CARD OF 'catenarylaw05.IdentTexts'. -/
def identTextsCard : Claim7 := { stood := { row := identTextsRow, standIns := [], harness := (true, "541f256a7d6095bf92e4ff350ac22834994858f41289e64fc3729a96a2966d1b"), looks := true }, kinds := [], alts := [], laidByText := true, laidKinds := [.data, .data, .data, .sentinel, .sentinel], laidTests := true, laidLooks := .later }
def IdentTextsCardSaid : Prop := Claim7.holds Tryd.pinned (.plain (OpenSpec.ofChange identTextsSpec)) identTextsCard

/-- THE TIED CARD OF 'catenarylaw05.IdentBridges'. -/
def identBridgesCard : Claim7 := { stood := { row := identBridgesRow, standIns := [], harness := (true, "541f256a7d6095bf92e4ff350ac22834994858f41289e64fc3729a96a2966d1b"), looks := true }, kinds := [], alts := [], laidByText := true, laidKinds := [.data, .data, .data, .sentinel, .sentinel], laidTests := true, laidLooks := .later }
def IdentBridgesCardSaid : Prop := Claim7.holds Tryd.pinned (.plain (OpenSpec.ofChange identBridgesSpec)) identBridgesCard

/-- THE SECOND FORM's CARD OF 'catenarylaw05.IdentPorts'. -/
def identPortsUptoCard : Claim7 := { stood := { row := identPortsUptoRow, standIns := [], harness := (true, "541f256a7d6095bf92e4ff350ac22834994858f41289e64fc3729a96a2966d1b"), looks := true }, kinds := [], alts := [], laidByText := true, laidKinds := [.data, .data, .data], laidTests := true, laidLooks := .later }
def IdentPortsUptoCardSaid : Prop := Claim7.holds Tryd.pinned (.plain (OpenSpec.upto identPortsSpec)) identPortsUptoCard

/-- THE SECOND FORM's CARD OF 'catenarylaw05.IdentTexts'. -/
def identTextsUptoCard : Claim7 := { stood := { row := identTextsUptoRow, standIns := [], harness := (true, "541f256a7d6095bf92e4ff350ac22834994858f41289e64fc3729a96a2966d1b"), looks := true }, kinds := [], alts := [], laidByText := true, laidKinds := [.data, .data, .data, .sentinel, .sentinel], laidTests := true, laidLooks := .later }
def IdentTextsUptoCardSaid : Prop := Claim7.holds Tryd.pinned (.plain (OpenSpec.upto identTextsSpec)) identTextsUptoCard

/-- THE SECOND FORM's CARD OF 'catenarylaw05.IdentBridges'. -/
def identBridgesUptoCard : Claim7 := { stood := { row := identBridgesUptoRow, standIns := [], harness := (true, "541f256a7d6095bf92e4ff350ac22834994858f41289e64fc3729a96a2966d1b"), looks := true }, kinds := [], alts := [], laidByText := true, laidKinds := [.data, .data, .data, .sentinel, .sentinel], laidTests := true, laidLooks := .later }
def IdentBridgesUptoCardSaid : Prop := Claim7.holds Tryd.pinned (.plain (OpenSpec.upto identBridgesSpec)) identBridgesUptoCard
end Rows
end Go.Proofs.YtlpjldhkkjicgaaDoor
