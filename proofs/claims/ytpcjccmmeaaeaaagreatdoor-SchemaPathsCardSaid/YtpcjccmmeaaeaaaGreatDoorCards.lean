/-
  DERIVED. GIVEN WITH THE SEED: THE CARDS: each row of YtpcjccmmeaaeaaaGreatDoorRows.lean that lists a variable, with what it lists TIED to the program's text (the seventh form; the later family's looks); each row that meets fmt, with fmt's text TOLD by the authors' own Lean function (tested against real Go, not proved from fmt's source: count such statements apart). THE CARD IS WHAT COUNTS. Prove the row's statement (the work); the ties are given (YtpcjccmmeaaeaaaGreatDoorTie.lean); close each card by the builder's one call (the guide's Derived/Test/ToyasCard.lean, 'card_holds'). Laid BY PROGRAM, IN A SANDBOX (cutbox-door.mjs). By AI agents, Wed Nov 11 2026. No macro, syntax, notation, axiom, sorry.
-/
import Derived.Test.YtpcjccmmeaaeaaaGreatDoorRows
import GoSem.ClaimSeven
namespace Go.Proofs.YtpcjccmmeaaeaaaGreatDoor
namespace Rows

/-- THE TIED CARD OF 'doubletlaw11.SchemaTells'. -/
def schemaTellsCard : Claim7 := { stood := { row := schemaTellsRow, standIns := [], harness := (true, "a79fc1138a3f3e1db2830359bb2d6fe0465f2aeabed8d9d7cb346b43824f6f3c"), looks := true }, kinds := [], alts := [], laidByText := true, laidKinds := [.data, .data, .data, .data, .handle, .pinned], laidTests := true, laidLooks := .later }
def SchemaTellsCardSaid : Prop := Claim7.holds Tryz.pinned (.plain (OpenSpec.ofChange schemaTellsSpec)) schemaTellsCard

/-- THE TIED CARD OF 'doubletlaw11.SchemaPaths'. -/
def schemaPathsCard : Claim7 := { stood := { row := schemaPathsRow, standIns := [], harness := (true, "a79fc1138a3f3e1db2830359bb2d6fe0465f2aeabed8d9d7cb346b43824f6f3c"), looks := true }, kinds := [], alts := [], laidByText := true, laidKinds := [.data, .data, .data, .data, .handle, .pinned], laidTests := true, laidLooks := .later }
def SchemaPathsCardSaid : Prop := Claim7.holds Tryz.pinned (.plain (OpenSpec.ofChange schemaPathsSpec)) schemaPathsCard

/-- THE TIED CARD OF 'doubletlaw14.CheckTells'. -/
def checkTellsCard : Claim7 := { stood := { row := checkTellsRow, standIns := [], harness := (true, "a79fc1138a3f3e1db2830359bb2d6fe0465f2aeabed8d9d7cb346b43824f6f3c"), looks := true }, kinds := [], alts := [], laidByText := true, laidKinds := [.data, .data, .data, .data, .sentinel, .sentinel, .pinned], laidTests := true, laidLooks := .later }
def CheckTellsCardSaid : Prop := Claim7.holds Tryz.pinned (.plain (OpenSpec.ofChange checkTellsSpec)) checkTellsCard

/-- THE TIED CARD OF 'doubletlaw14.CheckSides'. -/
def checkSidesCard : Claim7 := { stood := { row := checkSidesRow, standIns := [], harness := (true, "a79fc1138a3f3e1db2830359bb2d6fe0465f2aeabed8d9d7cb346b43824f6f3c"), looks := true }, kinds := [], alts := [], laidByText := true, laidKinds := [.data, .data, .data, .data, .sentinel, .sentinel, .pinned], laidTests := true, laidLooks := .later }
def CheckSidesCardSaid : Prop := Claim7.holds Tryz.pinned (.plain (OpenSpec.ofChange checkSidesSpec)) checkSidesCard

/-- THE TIED CARD OF 'doubletlaw16.TreeApplies'. -/
def treeAppliesCard : Claim7 := { stood := { row := treeAppliesRow, standIns := [], harness := (true, "a79fc1138a3f3e1db2830359bb2d6fe0465f2aeabed8d9d7cb346b43824f6f3c"), looks := true }, kinds := [], alts := [], laidByText := true, laidKinds := [.data, .data, .data, .data, .handle, .sentinel, .sentinel, .pinned], laidTests := true, laidLooks := .later }
def TreeAppliesCardSaid : Prop := Claim7.holds Tryz.pinned (.plain (OpenSpec.ofChange treeAppliesSpec)) treeAppliesCard

/-- THE TIED CARD OF 'doubletlaw16.TreeKeeps'. -/
def treeKeepsCard : Claim7 := { stood := { row := treeKeepsRow, standIns := [], harness := (true, "a79fc1138a3f3e1db2830359bb2d6fe0465f2aeabed8d9d7cb346b43824f6f3c"), looks := true }, kinds := [], alts := [], laidByText := true, laidKinds := [.data, .data, .data, .data, .handle, .sentinel, .sentinel, .pinned], laidTests := true, laidLooks := .later }
def TreeKeepsCardSaid : Prop := Claim7.holds Tryz.pinned (.plain (OpenSpec.ofChange treeKeepsSpec)) treeKeepsCard

/-- THE SECOND FORM's CARD OF 'doubletlaw11.SchemaTells'. -/
def schemaTellsUptoCard : Claim7 := { stood := { row := schemaTellsUptoRow, standIns := [], harness := (true, "a79fc1138a3f3e1db2830359bb2d6fe0465f2aeabed8d9d7cb346b43824f6f3c"), looks := true }, kinds := [], alts := [], laidByText := true, laidKinds := [.data, .data, .data, .data, .handle, .pinned], laidTests := true, laidLooks := .later }
def SchemaTellsUptoCardSaid : Prop := Claim7.holds Tryz.pinned (.plain (OpenSpec.upto schemaTellsSpec)) schemaTellsUptoCard

/-- THE SECOND FORM's CARD OF 'doubletlaw11.SchemaPaths'. -/
def schemaPathsUptoCard : Claim7 := { stood := { row := schemaPathsUptoRow, standIns := [], harness := (true, "a79fc1138a3f3e1db2830359bb2d6fe0465f2aeabed8d9d7cb346b43824f6f3c"), looks := true }, kinds := [], alts := [], laidByText := true, laidKinds := [.data, .data, .data, .data, .handle, .pinned], laidTests := true, laidLooks := .later }
def SchemaPathsUptoCardSaid : Prop := Claim7.holds Tryz.pinned (.plain (OpenSpec.upto schemaPathsSpec)) schemaPathsUptoCard

/-- THE SECOND FORM's CARD OF 'doubletlaw14.CheckTells'. -/
def checkTellsUptoCard : Claim7 := { stood := { row := checkTellsUptoRow, standIns := [], harness := (true, "a79fc1138a3f3e1db2830359bb2d6fe0465f2aeabed8d9d7cb346b43824f6f3c"), looks := true }, kinds := [], alts := [], laidByText := true, laidKinds := [.data, .data, .data, .data, .sentinel, .sentinel, .pinned], laidTests := true, laidLooks := .later }
def CheckTellsUptoCardSaid : Prop := Claim7.holds Tryz.pinned (.plain (OpenSpec.upto checkTellsSpec)) checkTellsUptoCard

/-- THE SECOND FORM's CARD OF 'doubletlaw14.CheckSides'. -/
def checkSidesUptoCard : Claim7 := { stood := { row := checkSidesUptoRow, standIns := [], harness := (true, "a79fc1138a3f3e1db2830359bb2d6fe0465f2aeabed8d9d7cb346b43824f6f3c"), looks := true }, kinds := [], alts := [], laidByText := true, laidKinds := [.data, .data, .data, .data, .sentinel, .sentinel, .pinned], laidTests := true, laidLooks := .later }
def CheckSidesUptoCardSaid : Prop := Claim7.holds Tryz.pinned (.plain (OpenSpec.upto checkSidesSpec)) checkSidesUptoCard

/-- THE SECOND FORM's CARD OF 'doubletlaw16.TreeApplies'. -/
def treeAppliesUptoCard : Claim7 := { stood := { row := treeAppliesUptoRow, standIns := [], harness := (true, "a79fc1138a3f3e1db2830359bb2d6fe0465f2aeabed8d9d7cb346b43824f6f3c"), looks := true }, kinds := [], alts := [], laidByText := true, laidKinds := [.data, .data, .data, .data, .handle, .sentinel, .sentinel, .pinned], laidTests := true, laidLooks := .later }
def TreeAppliesUptoCardSaid : Prop := Claim7.holds Tryz.pinned (.plain (OpenSpec.upto treeAppliesSpec)) treeAppliesUptoCard

/-- THE SECOND FORM's CARD OF 'doubletlaw16.TreeKeeps'. -/
def treeKeepsUptoCard : Claim7 := { stood := { row := treeKeepsUptoRow, standIns := [], harness := (true, "a79fc1138a3f3e1db2830359bb2d6fe0465f2aeabed8d9d7cb346b43824f6f3c"), looks := true }, kinds := [], alts := [], laidByText := true, laidKinds := [.data, .data, .data, .data, .handle, .sentinel, .sentinel, .pinned], laidTests := true, laidLooks := .later }
def TreeKeepsUptoCardSaid : Prop := Claim7.holds Tryz.pinned (.plain (OpenSpec.upto treeKeepsSpec)) treeKeepsUptoCard
end Rows
end Go.Proofs.YtpcjccmmeaaeaaaGreatDoor
