/-
  DERIVED. GIVEN WITH THE SEED: THE CARDS: each row of YtjnofdnoboibpaaGreatDoorRows.lean that lists a variable, with what it lists TIED to the program's text (the seventh form; the later family's looks); each row that meets fmt, with fmt's text TOLD by the authors' own Lean function (tested against real Go, not proved from fmt's source: count such statements apart). THE CARD IS WHAT COUNTS. Prove the row's statement (the work); the ties are given (YtjnofdnoboibpaaGreatDoorTie.lean); close each card by the builder's one call (the guide's Derived/Test/ToyasCard.lean, 'card_holds'). Laid BY PROGRAM, IN A SANDBOX (cutbox-door.mjs). By AI agents, Wed Nov 11 2026. No macro, syntax, notation, axiom, sorry.
-/
import Derived.Test.YtjnofdnoboibpaaGreatDoorRows
import GoSem.ClaimSeven
namespace Go.Proofs.YtjnofdnoboibpaaGreatDoor
namespace Rows

/-- THE TIED CARD OF 'doubletlaw07.EditTells'. -/
def editTellsCard : Claim7 := { stood := { row := editTellsRow, standIns := [], harness := (true, "bad619024456f3282a8a9cf9a90521962494e2737969c55ea19abcefbff35cb0"), looks := true }, kinds := [], alts := [], laidByText := true, laidKinds := [.data, .data, .data, .data, .sentinel, .sentinel, .pinned], laidTests := true, laidLooks := .later }
def EditTellsCardSaid : Prop := Claim7.holds Tryz.pinned (.plain (OpenSpec.ofChange editTellsSpec)) editTellsCard

/-- THE TIED CARD OF 'doubletlaw07.EditBack'. -/
def editBackCard : Claim7 := { stood := { row := editBackRow, standIns := [], harness := (true, "bad619024456f3282a8a9cf9a90521962494e2737969c55ea19abcefbff35cb0"), looks := true }, kinds := [], alts := [], laidByText := true, laidKinds := [.data, .data, .data, .data, .sentinel, .sentinel, .pinned], laidTests := true, laidLooks := .later }
def EditBackCardSaid : Prop := Claim7.holds Tryz.pinned (.plain (OpenSpec.ofChange editBackSpec)) editBackCard

/-- THE TIED CARD OF 'doubletlaw06.PtrTells'. -/
def ptrTellsCard : Claim7 := { stood := { row := ptrTellsRow, standIns := [], harness := (true, "bad619024456f3282a8a9cf9a90521962494e2737969c55ea19abcefbff35cb0"), looks := true }, kinds := [], alts := [], laidByText := true, laidKinds := [.data, .data, .data, .data, .sentinel, .sentinel, .pinned], laidTests := true, laidLooks := .later }
def PtrTellsCardSaid : Prop := Claim7.holds Tryz.pinned (.plain (OpenSpec.ofChange ptrTellsSpec)) ptrTellsCard

/-- THE TIED CARD OF 'doubletlaw04.ParseTells'. -/
def parseTellsCard : Claim7 := { stood := { row := parseTellsRow, standIns := [], harness := (true, "bad619024456f3282a8a9cf9a90521962494e2737969c55ea19abcefbff35cb0"), looks := true }, kinds := [], alts := [], laidByText := true, laidKinds := [.data, .data, .data, .data, .handle, .sentinel, .sentinel, .pinned], laidTests := true, laidLooks := .later }
def ParseTellsCardSaid : Prop := Claim7.holds Tryz.pinned (.plain (OpenSpec.ofChange parseTellsSpec)) parseTellsCard

/-- THE TIED CARD OF 'doubletlaw04.ParseBlanks'. -/
def parseBlanksCard : Claim7 := { stood := { row := parseBlanksRow, standIns := [], harness := (true, "bad619024456f3282a8a9cf9a90521962494e2737969c55ea19abcefbff35cb0"), looks := true }, kinds := [], alts := [], laidByText := true, laidKinds := [.data, .data, .data, .data, .handle, .sentinel, .sentinel, .pinned], laidTests := true, laidLooks := .later }
def ParseBlanksCardSaid : Prop := Claim7.holds Tryz.pinned (.plain (OpenSpec.ofChange parseBlanksSpec)) parseBlanksCard

/-- THE SECOND FORM's CARD OF 'doubletlaw07.EditTells'. -/
def editTellsUptoCard : Claim7 := { stood := { row := editTellsUptoRow, standIns := [], harness := (true, "bad619024456f3282a8a9cf9a90521962494e2737969c55ea19abcefbff35cb0"), looks := true }, kinds := [], alts := [], laidByText := true, laidKinds := [.data, .data, .data, .data, .sentinel, .sentinel, .pinned], laidTests := true, laidLooks := .later }
def EditTellsUptoCardSaid : Prop := Claim7.holds Tryz.pinned (.plain (OpenSpec.upto editTellsSpec)) editTellsUptoCard

/-- THE SECOND FORM's CARD OF 'doubletlaw07.EditBack'. -/
def editBackUptoCard : Claim7 := { stood := { row := editBackUptoRow, standIns := [], harness := (true, "bad619024456f3282a8a9cf9a90521962494e2737969c55ea19abcefbff35cb0"), looks := true }, kinds := [], alts := [], laidByText := true, laidKinds := [.data, .data, .data, .data, .sentinel, .sentinel, .pinned], laidTests := true, laidLooks := .later }
def EditBackUptoCardSaid : Prop := Claim7.holds Tryz.pinned (.plain (OpenSpec.upto editBackSpec)) editBackUptoCard

/-- THE SECOND FORM's CARD OF 'doubletlaw06.PtrTells'. -/
def ptrTellsUptoCard : Claim7 := { stood := { row := ptrTellsUptoRow, standIns := [], harness := (true, "bad619024456f3282a8a9cf9a90521962494e2737969c55ea19abcefbff35cb0"), looks := true }, kinds := [], alts := [], laidByText := true, laidKinds := [.data, .data, .data, .data, .sentinel, .sentinel, .pinned], laidTests := true, laidLooks := .later }
def PtrTellsUptoCardSaid : Prop := Claim7.holds Tryz.pinned (.plain (OpenSpec.upto ptrTellsSpec)) ptrTellsUptoCard

/-- THE SECOND FORM's CARD OF 'doubletlaw04.ParseTells'. -/
def parseTellsUptoCard : Claim7 := { stood := { row := parseTellsUptoRow, standIns := [], harness := (true, "bad619024456f3282a8a9cf9a90521962494e2737969c55ea19abcefbff35cb0"), looks := true }, kinds := [], alts := [], laidByText := true, laidKinds := [.data, .data, .data, .data, .handle, .sentinel, .sentinel, .pinned], laidTests := true, laidLooks := .later }
def ParseTellsUptoCardSaid : Prop := Claim7.holds Tryz.pinned (.plain (OpenSpec.upto parseTellsSpec)) parseTellsUptoCard

/-- THE SECOND FORM's CARD OF 'doubletlaw04.ParseBlanks'. -/
def parseBlanksUptoCard : Claim7 := { stood := { row := parseBlanksUptoRow, standIns := [], harness := (true, "bad619024456f3282a8a9cf9a90521962494e2737969c55ea19abcefbff35cb0"), looks := true }, kinds := [], alts := [], laidByText := true, laidKinds := [.data, .data, .data, .data, .handle, .sentinel, .sentinel, .pinned], laidTests := true, laidLooks := .later }
def ParseBlanksUptoCardSaid : Prop := Claim7.holds Tryz.pinned (.plain (OpenSpec.upto parseBlanksSpec)) parseBlanksUptoCard
end Rows
end Go.Proofs.YtjnofdnoboibpaaGreatDoor
