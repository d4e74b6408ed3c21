/-
  DERIVED. GIVEN WITH THE SEED: THE CARDS: each row of YtjfcfncgalmofaaGreatDoorRows.lean that lists a variable, with what it lists TIED to the program's text (the seventh form; the later family's looks); each row that meets fmt, with fmt's text TOLD by the authors' own Lean function (tested against real Go, not proved from fmt's source: count such statements apart). THE CARD IS WHAT COUNTS. Prove the row's statement (the work); the ties are given (YtjfcfncgalmofaaGreatDoorTie.lean); close each card by the builder's one call (the guide's Derived/Test/ToyasCard.lean, 'card_holds'). Laid BY PROGRAM, IN A SANDBOX (cutbox-door.mjs). By AI agents, Wed Nov 11 2026. No macro, syntax, notation, axiom, sorry.
-/
import Derived.Test.YtjfcfncgalmofaaGreatDoorRows
import GoSem.ClaimSeven
namespace Go.Proofs.YtjfcfncgalmofaaGreatDoor
namespace Rows

/-- THE TIED CARD OF 'doubletlaw16.TreeApplies'. -/
def treeAppliesCard : Claim7 := { stood := { row := treeAppliesRow, standIns := [], harness := (true, "6ef720008ec65cb6852fc341acf92d8a3b472233a6f3e57152b4620cbbce960c"), looks := true }, kinds := [], alts := [], laidByText := true, laidKinds := [.data, .data, .data, .data, .handle, .sentinel, .sentinel, .pinned], laidTests := true, laidLooks := .later }
def TreeAppliesCardSaid : Prop := Claim7.holds Tryz.pinned (.plain (OpenSpec.ofChange treeAppliesSpec)) treeAppliesCard

/-- THE TIED CARD OF 'doubletlaw16.TreeKeeps'. -/
def treeKeepsCard : Claim7 := { stood := { row := treeKeepsRow, standIns := [], harness := (true, "6ef720008ec65cb6852fc341acf92d8a3b472233a6f3e57152b4620cbbce960c"), looks := true }, kinds := [], alts := [], laidByText := true, laidKinds := [.data, .data, .data, .data, .handle, .sentinel, .sentinel, .pinned], laidTests := true, laidLooks := .later }
def TreeKeepsCardSaid : Prop := Claim7.holds Tryz.pinned (.plain (OpenSpec.ofChange treeKeepsSpec)) treeKeepsCard

/-- THE TIED CARD OF 'doubletlaw04.ParseTells'. -/
def parseTellsCard : Claim7 := { stood := { row := parseTellsRow, standIns := [], harness := (true, "6ef720008ec65cb6852fc341acf92d8a3b472233a6f3e57152b4620cbbce960c"), looks := true }, kinds := [], alts := [], laidByText := true, laidKinds := [.data, .data, .data, .data, .handle, .sentinel, .sentinel, .pinned], laidTests := true, laidLooks := .later }
def ParseTellsCardSaid : Prop := Claim7.holds Tryz.pinned (.plain (OpenSpec.ofChange parseTellsSpec)) parseTellsCard

/-- THE TIED CARD OF 'doubletlaw04.ParseBlanks'. -/
def parseBlanksCard : Claim7 := { stood := { row := parseBlanksRow, standIns := [], harness := (true, "6ef720008ec65cb6852fc341acf92d8a3b472233a6f3e57152b4620cbbce960c"), looks := true }, kinds := [], alts := [], laidByText := true, laidKinds := [.data, .data, .data, .data, .handle, .sentinel, .sentinel, .pinned], laidTests := true, laidLooks := .later }
def ParseBlanksCardSaid : Prop := Claim7.holds Tryz.pinned (.plain (OpenSpec.ofChange parseBlanksSpec)) parseBlanksCard

/-- THE TIED CARD OF 'doubletlaw05.ShowBack'. -/
def showBackCard : Claim7 := { stood := { row := showBackRow, standIns := [], harness := (true, "6ef720008ec65cb6852fc341acf92d8a3b472233a6f3e57152b4620cbbce960c"), looks := true }, kinds := [], alts := [], laidByText := true, laidKinds := [.data, .data, .data, .data, .handle, .sentinel, .sentinel, .pinned], laidTests := true, laidLooks := .later }
def ShowBackCardSaid : Prop := Claim7.holds Tryz.pinned (.plain (OpenSpec.ofChange showBackSpec)) showBackCard

/-- THE TIED CARD OF 'doubletlaw15.ValidSides'. -/
def validSidesCard : Claim7 := { stood := { row := validSidesRow, standIns := [], harness := (true, "6ef720008ec65cb6852fc341acf92d8a3b472233a6f3e57152b4620cbbce960c"), looks := true }, kinds := [], alts := [], laidByText := true, laidKinds := [.data, .data, .data, .data, .sentinel, .sentinel, .pinned], laidTests := true, laidLooks := .later }
def ValidSidesCardSaid : Prop := Claim7.holds Tryz.pinned (.plain (OpenSpec.ofChange validSidesSpec)) validSidesCard

/-- THE SECOND FORM's CARD OF 'doubletlaw16.TreeApplies'. -/
def treeAppliesUptoCard : Claim7 := { stood := { row := treeAppliesUptoRow, standIns := [], harness := (true, "6ef720008ec65cb6852fc341acf92d8a3b472233a6f3e57152b4620cbbce960c"), looks := true }, kinds := [], alts := [], laidByText := true, laidKinds := [.data, .data, .data, .data, .handle, .sentinel, .sentinel, .pinned], laidTests := true, laidLooks := .later }
def TreeAppliesUptoCardSaid : Prop := Claim7.holds Tryz.pinned (.plain (OpenSpec.upto treeAppliesSpec)) treeAppliesUptoCard

/-- THE SECOND FORM's CARD OF 'doubletlaw16.TreeKeeps'. -/
def treeKeepsUptoCard : Claim7 := { stood := { row := treeKeepsUptoRow, standIns := [], harness := (true, "6ef720008ec65cb6852fc341acf92d8a3b472233a6f3e57152b4620cbbce960c"), looks := true }, kinds := [], alts := [], laidByText := true, laidKinds := [.data, .data, .data, .data, .handle, .sentinel, .sentinel, .pinned], laidTests := true, laidLooks := .later }
def TreeKeepsUptoCardSaid : Prop := Claim7.holds Tryz.pinned (.plain (OpenSpec.upto treeKeepsSpec)) treeKeepsUptoCard

/-- THE SECOND FORM's CARD OF 'doubletlaw04.ParseTells'. -/
def parseTellsUptoCard : Claim7 := { stood := { row := parseTellsUptoRow, standIns := [], harness := (true, "6ef720008ec65cb6852fc341acf92d8a3b472233a6f3e57152b4620cbbce960c"), looks := true }, kinds := [], alts := [], laidByText := true, laidKinds := [.data, .data, .data, .data, .handle, .sentinel, .sentinel, .pinned], laidTests := true, laidLooks := .later }
def ParseTellsUptoCardSaid : Prop := Claim7.holds Tryz.pinned (.plain (OpenSpec.upto parseTellsSpec)) parseTellsUptoCard

/-- THE SECOND FORM's CARD OF 'doubletlaw04.ParseBlanks'. -/
def parseBlanksUptoCard : Claim7 := { stood := { row := parseBlanksUptoRow, standIns := [], harness := (true, "6ef720008ec65cb6852fc341acf92d8a3b472233a6f3e57152b4620cbbce960c"), looks := true }, kinds := [], alts := [], laidByText := true, laidKinds := [.data, .data, .data, .data, .handle, .sentinel, .sentinel, .pinned], laidTests := true, laidLooks := .later }
def ParseBlanksUptoCardSaid : Prop := Claim7.holds Tryz.pinned (.plain (OpenSpec.upto parseBlanksSpec)) parseBlanksUptoCard

/-- THE SECOND FORM's CARD OF 'doubletlaw05.ShowBack'. -/
def showBackUptoCard : Claim7 := { stood := { row := showBackUptoRow, standIns := [], harness := (true, "6ef720008ec65cb6852fc341acf92d8a3b472233a6f3e57152b4620cbbce960c"), looks := true }, kinds := [], alts := [], laidByText := true, laidKinds := [.data, .data, .data, .data, .handle, .sentinel, .sentinel, .pinned], laidTests := true, laidLooks := .later }
def ShowBackUptoCardSaid : Prop := Claim7.holds Tryz.pinned (.plain (OpenSpec.upto showBackSpec)) showBackUptoCard

/-- THE SECOND FORM's CARD OF 'doubletlaw15.ValidSides'. -/
def validSidesUptoCard : Claim7 := { stood := { row := validSidesUptoRow, standIns := [], harness := (true, "6ef720008ec65cb6852fc341acf92d8a3b472233a6f3e57152b4620cbbce960c"), looks := true }, kinds := [], alts := [], laidByText := true, laidKinds := [.data, .data, .data, .data, .sentinel, .sentinel, .pinned], laidTests := true, laidLooks := .later }
def ValidSidesUptoCardSaid : Prop := Claim7.holds Tryz.pinned (.plain (OpenSpec.upto validSidesSpec)) validSidesUptoCard
end Rows
end Go.Proofs.YtjfcfncgalmofaaGreatDoor
