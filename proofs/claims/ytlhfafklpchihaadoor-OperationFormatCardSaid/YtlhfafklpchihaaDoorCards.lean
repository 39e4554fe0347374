/-
  DERIVED. GIVEN WITH THE SEED: THE CARDS: each row of YtlhfafklpchihaaDoorRows.lean that lists a variable, with what it lists TIED to the program's text (the seventh form; the later family's looks); each row that meets fmt, with fmt's text TOLD by the authors' own Lean function (tested against real Go, not proved from fmt's source: count such statements apart). THE CARD IS WHAT COUNTS. Prove the row's statement (the work); the ties are given (YtlhfafklpchihaaDoorTie.lean); close each card by the builder's one call (the guide's Derived/Test/ToyasCard.lean, 'card_holds'). Laid BY PROGRAM, IN A SANDBOX (cutbox-door.mjs). By AI agents, Wed Nov 11 2026. No macro, syntax, notation, axiom, sorry.
-/
import Derived.Test.YtlhfafklpchihaaDoorRows
import GoSem.ClaimSeven
namespace Go.Proofs.YtlhfafklpchihaaDoor
namespace Rows

/-- THE TIED CARD OF 'swarflaw28.OperationPasses'. -/
def operationPassesCard : Claim7 := { stood := { row := operationPassesRow, standIns := [], harness := (true, "6f2775cc1b5bb5436ecc2e0efc350dd340494479b40168160c142b51a40f2349"), looks := false }, kinds := [], alts := [], laidByText := true, laidKinds := [.data, .data, .data], laidTests := true, laidLooks := .later }
def OperationPassesCardSaid : Prop := Claim7.holds Tryd.pinned (.plain (OpenSpec.ofChange operationPassesSpec)) operationPassesCard

/-- THE TIED CARD OF 'swarflaw28.OperationLeast'. -/
def operationLeastCard : Claim7 := { stood := { row := operationLeastRow, standIns := [], harness := (true, "6f2775cc1b5bb5436ecc2e0efc350dd340494479b40168160c142b51a40f2349"), looks := false }, kinds := [], alts := [], laidByText := true, laidKinds := [.data, .data, .data], laidTests := true, laidLooks := .later }
def OperationLeastCardSaid : Prop := Claim7.holds Tryd.pinned (.plain (OpenSpec.ofChange operationLeastSpec)) operationLeastCard

/-- THE TIED CARD OF 'swarflaw28.OperationNeeds'. -/
def operationNeedsCard : Claim7 := { stood := { row := operationNeedsRow, standIns := [], harness := (true, "6f2775cc1b5bb5436ecc2e0efc350dd340494479b40168160c142b51a40f2349"), looks := false }, kinds := [], alts := [], laidByText := true, laidKinds := [.data, .data, .data], laidTests := true, laidLooks := .later }
def OperationNeedsCardSaid : Prop := Claim7.holds Tryd.pinned (.plain (OpenSpec.ofChange operationNeedsSpec)) operationNeedsCard

/-- THE TIED CARD OF 'swarflaw28.OperationFormat'. -/
def operationFormatCard : Claim7 := { stood := { row := operationFormatRow, standIns := [], harness := (true, "6f2775cc1b5bb5436ecc2e0efc350dd340494479b40168160c142b51a40f2349"), looks := false }, kinds := [], alts := [], laidByText := true, laidKinds := [.data, .data, .data], laidTests := true, laidLooks := .later }
def OperationFormatCardSaid : Prop := Claim7.holds Tryd.pinned (.plain (OpenSpec.ofChange operationFormatSpec)) operationFormatCard

/-- THE TIED CARD OF 'swarflaw28.OperationTools'. -/
def operationToolsCard : Claim7 := { stood := { row := operationToolsRow, standIns := [], harness := (true, "6f2775cc1b5bb5436ecc2e0efc350dd340494479b40168160c142b51a40f2349"), looks := false }, kinds := [], alts := [], laidByText := true, laidKinds := [.data, .data, .data], laidTests := true, laidLooks := .later }
def OperationToolsCardSaid : Prop := Claim7.holds Tryd.pinned (.plain (OpenSpec.ofChange operationToolsSpec)) operationToolsCard

/-- THE SECOND FORM's CARD OF 'swarflaw28.OperationPasses'. -/
def operationPassesUptoCard : Claim7 := { stood := { row := operationPassesUptoRow, standIns := [], harness := (true, "6f2775cc1b5bb5436ecc2e0efc350dd340494479b40168160c142b51a40f2349"), looks := false }, kinds := [], alts := [], laidByText := true, laidKinds := [.data, .data, .data], laidTests := true, laidLooks := .later }
def OperationPassesUptoCardSaid : Prop := Claim7.holds Tryd.pinned (.plain (OpenSpec.upto operationPassesSpec)) operationPassesUptoCard

/-- THE SECOND FORM's CARD OF 'swarflaw28.OperationLeast'. -/
def operationLeastUptoCard : Claim7 := { stood := { row := operationLeastUptoRow, standIns := [], harness := (true, "6f2775cc1b5bb5436ecc2e0efc350dd340494479b40168160c142b51a40f2349"), looks := false }, kinds := [], alts := [], laidByText := true, laidKinds := [.data, .data, .data], laidTests := true, laidLooks := .later }
def OperationLeastUptoCardSaid : Prop := Claim7.holds Tryd.pinned (.plain (OpenSpec.upto operationLeastSpec)) operationLeastUptoCard

/-- THE SECOND FORM's CARD OF 'swarflaw28.OperationNeeds'. -/
def operationNeedsUptoCard : Claim7 := { stood := { row := operationNeedsUptoRow, standIns := [], harness := (true, "6f2775cc1b5bb5436ecc2e0efc350dd340494479b40168160c142b51a40f2349"), looks := false }, kinds := [], alts := [], laidByText := true, laidKinds := [.data, .data, .data], laidTests := true, laidLooks := .later }
def OperationNeedsUptoCardSaid : Prop := Claim7.holds Tryd.pinned (.plain (OpenSpec.upto operationNeedsSpec)) operationNeedsUptoCard

/-- THE SECOND FORM's CARD OF 'swarflaw28.OperationFormat'. -/
def operationFormatUptoCard : Claim7 := { stood := { row := operationFormatUptoRow, standIns := [], harness := (true, "6f2775cc1b5bb5436ecc2e0efc350dd340494479b40168160c142b51a40f2349"), looks := false }, kinds := [], alts := [], laidByText := true, laidKinds := [.data, .data, .data], laidTests := true, laidLooks := .later }
def OperationFormatUptoCardSaid : Prop := Claim7.holds Tryd.pinned (.plain (OpenSpec.upto operationFormatSpec)) operationFormatUptoCard

/-- THE SECOND FORM's CARD OF 'swarflaw28.OperationTools'. -/
def operationToolsUptoCard : Claim7 := { stood := { row := operationToolsUptoRow, standIns := [], harness := (true, "6f2775cc1b5bb5436ecc2e0efc350dd340494479b40168160c142b51a40f2349"), looks := false }, kinds := [], alts := [], laidByText := true, laidKinds := [.data, .data, .data], laidTests := true, laidLooks := .later }
def OperationToolsUptoCardSaid : Prop := Claim7.holds Tryd.pinned (.plain (OpenSpec.upto operationToolsSpec)) operationToolsUptoCard
end Rows
end Go.Proofs.YtlhfafklpchihaaDoor
