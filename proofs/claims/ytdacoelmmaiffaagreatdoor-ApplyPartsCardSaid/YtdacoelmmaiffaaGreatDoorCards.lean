/-
  DERIVED. GIVEN WITH THE SEED: THE CARDS: each row of YtdacoelmmaiffaaGreatDoorRows.lean that lists a variable, with what it lists TIED to the program's text (the seventh form; the later family's looks); each row that meets fmt, with fmt's text TOLD by the authors' own Lean function (tested against real Go, not proved from fmt's source: count such statements apart). THE CARD IS WHAT COUNTS. Prove the row's statement (the work); the ties are given (YtdacoelmmaiffaaGreatDoorTie.lean); close each card by the builder's one call (the guide's Derived/Test/ToyasCard.lean, 'card_holds'). Laid BY PROGRAM, IN A SANDBOX (cutbox-door.mjs). By AI agents, Wed Nov 11 2026. No macro, syntax, notation, axiom, sorry.
-/
import Derived.Test.YtdacoelmmaiffaaGreatDoorRows
import GoSem.ClaimSeven
namespace Go.Proofs.YtdacoelmmaiffaaGreatDoor
namespace Rows

/-- THE TIED CARD OF 'doubletlaw07.EditTells'. -/
def editTellsCard : Claim7 := { stood := { row := editTellsRow, standIns := [], harness := (true, "0901af21e5c129f7ed738ff23f59561e7163a313915c5f353a6267eaf5a9cbbd"), looks := true }, kinds := [], alts := [], laidByText := true, laidKinds := [.data, .data, .data, .data, .sentinel, .sentinel, .pinned], laidTests := true, laidLooks := .later }
def EditTellsCardSaid : Prop := Claim7.holds Tryz.pinned (.plain (OpenSpec.ofChange editTellsSpec)) editTellsCard

/-- THE TIED CARD OF 'doubletlaw07.EditBack'. -/
def editBackCard : Claim7 := { stood := { row := editBackRow, standIns := [], harness := (true, "0901af21e5c129f7ed738ff23f59561e7163a313915c5f353a6267eaf5a9cbbd"), looks := true }, kinds := [], alts := [], laidByText := true, laidKinds := [.data, .data, .data, .data, .sentinel, .sentinel, .pinned], laidTests := true, laidLooks := .later }
def EditBackCardSaid : Prop := Claim7.holds Tryz.pinned (.plain (OpenSpec.ofChange editBackSpec)) editBackCard

/-- THE TIED CARD OF 'doubletlaw09.ApplyTells'. -/
def applyTellsCard : Claim7 := { stood := { row := applyTellsRow, standIns := [], harness := (true, "0901af21e5c129f7ed738ff23f59561e7163a313915c5f353a6267eaf5a9cbbd"), looks := true }, kinds := [], alts := [], laidByText := true, laidKinds := [.data, .data, .data, .data, .handle, .sentinel, .sentinel, .pinned], laidTests := true, laidLooks := .later }
def ApplyTellsCardSaid : Prop := Claim7.holds Tryz.pinned (.plain (OpenSpec.ofChange applyTellsSpec)) applyTellsCard

/-- THE TIED CARD OF 'doubletlaw09.ApplyParts'. -/
def applyPartsCard : Claim7 := { stood := { row := applyPartsRow, standIns := [], harness := (true, "0901af21e5c129f7ed738ff23f59561e7163a313915c5f353a6267eaf5a9cbbd"), looks := true }, kinds := [], alts := [], laidByText := true, laidKinds := [.data, .data, .data, .data, .handle, .sentinel, .sentinel, .pinned], laidTests := true, laidLooks := .later }
def ApplyPartsCardSaid : Prop := Claim7.holds Tryz.pinned (.plain (OpenSpec.ofChange applyPartsSpec)) applyPartsCard

/-- THE TIED CARD OF 'doubletlaw04.ParseTells'. -/
def parseTellsCard : Claim7 := { stood := { row := parseTellsRow, standIns := [], harness := (true, "0901af21e5c129f7ed738ff23f59561e7163a313915c5f353a6267eaf5a9cbbd"), looks := true }, kinds := [], alts := [], laidByText := true, laidKinds := [.data, .data, .data, .data, .handle, .sentinel, .sentinel, .pinned], laidTests := true, laidLooks := .later }
def ParseTellsCardSaid : Prop := Claim7.holds Tryz.pinned (.plain (OpenSpec.ofChange parseTellsSpec)) parseTellsCard

/-- THE TIED CARD OF 'doubletlaw04.ParseBlanks'. -/
def parseBlanksCard : Claim7 := { stood := { row := parseBlanksRow, standIns := [], harness := (true, "0901af21e5c129f7ed738ff23f59561e7163a313915c5f353a6267eaf5a9cbbd"), looks := true }, kinds := [], alts := [], laidByText := true, laidKinds := [.data, .data, .data, .data, .handle, .sentinel, .sentinel, .pinned], laidTests := true, laidLooks := .later }
def ParseBlanksCardSaid : Prop := Claim7.holds Tryz.pinned (.plain (OpenSpec.ofChange parseBlanksSpec)) parseBlanksCard

/-- THE TIED CARD OF 'doubletlaw05.ShowBack'. -/
def showBackCard : Claim7 := { stood := { row := showBackRow, standIns := [], harness := (true, "0901af21e5c129f7ed738ff23f59561e7163a313915c5f353a6267eaf5a9cbbd"), looks := true }, kinds := [], alts := [], laidByText := true, laidKinds := [.data, .data, .data, .data, .handle, .sentinel, .sentinel, .pinned], laidTests := true, laidLooks := .later }
def ShowBackCardSaid : Prop := Claim7.holds Tryz.pinned (.plain (OpenSpec.ofChange showBackSpec)) showBackCard

/-- THE SECOND FORM's CARD OF 'doubletlaw07.EditTells'. -/
def editTellsUptoCard : Claim7 := { stood := { row := editTellsUptoRow, standIns := [], harness := (true, "0901af21e5c129f7ed738ff23f59561e7163a313915c5f353a6267eaf5a9cbbd"), looks := true }, kinds := [], alts := [], laidByText := true, laidKinds := [.data, .data, .data, .data, .sentinel, .sentinel, .pinned], laidTests := true, laidLooks := .later }
def EditTellsUptoCardSaid : Prop := Claim7.holds Tryz.pinned (.plain (OpenSpec.upto editTellsSpec)) editTellsUptoCard

/-- THE SECOND FORM's CARD OF 'doubletlaw07.EditBack'. -/
def editBackUptoCard : Claim7 := { stood := { row := editBackUptoRow, standIns := [], harness := (true, "0901af21e5c129f7ed738ff23f59561e7163a313915c5f353a6267eaf5a9cbbd"), looks := true }, kinds := [], alts := [], laidByText := true, laidKinds := [.data, .data, .data, .data, .sentinel, .sentinel, .pinned], laidTests := true, laidLooks := .later }
def EditBackUptoCardSaid : Prop := Claim7.holds Tryz.pinned (.plain (OpenSpec.upto editBackSpec)) editBackUptoCard

/-- THE SECOND FORM's CARD OF 'doubletlaw09.ApplyTells'. -/
def applyTellsUptoCard : Claim7 := { stood := { row := applyTellsUptoRow, standIns := [], harness := (true, "0901af21e5c129f7ed738ff23f59561e7163a313915c5f353a6267eaf5a9cbbd"), looks := true }, kinds := [], alts := [], laidByText := true, laidKinds := [.data, .data, .data, .data, .handle, .sentinel, .sentinel, .pinned], laidTests := true, laidLooks := .later }
def ApplyTellsUptoCardSaid : Prop := Claim7.holds Tryz.pinned (.plain (OpenSpec.upto applyTellsSpec)) applyTellsUptoCard

/-- THE SECOND FORM's CARD OF 'doubletlaw09.ApplyParts'. -/
def applyPartsUptoCard : Claim7 := { stood := { row := applyPartsUptoRow, standIns := [], harness := (true, "0901af21e5c129f7ed738ff23f59561e7163a313915c5f353a6267eaf5a9cbbd"), looks := true }, kinds := [], alts := [], laidByText := true, laidKinds := [.data, .data, .data, .data, .handle, .sentinel, .sentinel, .pinned], laidTests := true, laidLooks := .later }
def ApplyPartsUptoCardSaid : Prop := Claim7.holds Tryz.pinned (.plain (OpenSpec.upto applyPartsSpec)) applyPartsUptoCard

/-- THE SECOND FORM's CARD OF 'doubletlaw04.ParseTells'. -/
def parseTellsUptoCard : Claim7 := { stood := { row := parseTellsUptoRow, standIns := [], harness := (true, "0901af21e5c129f7ed738ff23f59561e7163a313915c5f353a6267eaf5a9cbbd"), looks := true }, kinds := [], alts := [], laidByText := true, laidKinds := [.data, .data, .data, .data, .handle, .sentinel, .sentinel, .pinned], laidTests := true, laidLooks := .later }
def ParseTellsUptoCardSaid : Prop := Claim7.holds Tryz.pinned (.plain (OpenSpec.upto parseTellsSpec)) parseTellsUptoCard

/-- THE SECOND FORM's CARD OF 'doubletlaw04.ParseBlanks'. -/
def parseBlanksUptoCard : Claim7 := { stood := { row := parseBlanksUptoRow, standIns := [], harness := (true, "0901af21e5c129f7ed738ff23f59561e7163a313915c5f353a6267eaf5a9cbbd"), looks := true }, kinds := [], alts := [], laidByText := true, laidKinds := [.data, .data, .data, .data, .handle, .sentinel, .sentinel, .pinned], laidTests := true, laidLooks := .later }
def ParseBlanksUptoCardSaid : Prop := Claim7.holds Tryz.pinned (.plain (OpenSpec.upto parseBlanksSpec)) parseBlanksUptoCard

/-- THE SECOND FORM's CARD OF 'doubletlaw05.ShowBack'. -/
def showBackUptoCard : Claim7 := { stood := { row := showBackUptoRow, standIns := [], harness := (true, "0901af21e5c129f7ed738ff23f59561e7163a313915c5f353a6267eaf5a9cbbd"), looks := true }, kinds := [], alts := [], laidByText := true, laidKinds := [.data, .data, .data, .data, .handle, .sentinel, .sentinel, .pinned], laidTests := true, laidLooks := .later }
def ShowBackUptoCardSaid : Prop := Claim7.holds Tryz.pinned (.plain (OpenSpec.upto showBackSpec)) showBackUptoCard
end Rows
end Go.Proofs.YtdacoelmmaiffaaGreatDoor
