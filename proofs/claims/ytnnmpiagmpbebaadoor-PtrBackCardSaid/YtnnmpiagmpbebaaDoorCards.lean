/-
  DERIVED. GIVEN WITH THE SEED: THE CARDS: each row of YtnnmpiagmpbebaaDoorRows.lean that lists a variable, with what it lists TIED to the program's text (the seventh form; the later family's looks); each row that meets fmt, with fmt's text TOLD by the authors' own Lean function (tested against real Go, not proved from fmt's source: count such statements apart). THE CARD IS WHAT COUNTS. Prove the row's statement (the work); the ties are given (YtnnmpiagmpbebaaDoorTie.lean); close each card by the builder's one call (the guide's Derived/Test/ToyasCard.lean, 'card_holds'). Laid BY PROGRAM, IN A SANDBOX (cutbox-door.mjs). By AI agents, Wed Nov 11 2026. No macro, syntax, notation, axiom, sorry.
-/
import Derived.Test.YtnnmpiagmpbebaaDoorRows
import GoSem.ClaimSeven
namespace Go.Proofs.YtnnmpiagmpbebaaDoor
namespace Rows

/-- THE TIED CARD OF 'doubletlaw02.StrBack'. -/
def strBackCard : Claim7 := { stood := { row := strBackRow, standIns := [], harness := (true, "05b4677b48d804867bf9bb048068b8d2c9b315696325b272759633bacf4e3d5e"), looks := true }, kinds := [], alts := [], laidByText := true, laidKinds := [.data, .pinned], laidTests := true, laidLooks := .later }
def StrBackCardSaid : Prop := Claim7.holds Tryd.pinned (.plain (OpenSpec.ofChange strBackSpec)) strBackCard

/-- THE TIED CARD OF 'doubletlaw05.ShowTells'. -/
def showTellsCard : Claim7 := { stood := { row := showTellsRow, standIns := [], harness := (true, "05b4677b48d804867bf9bb048068b8d2c9b315696325b272759633bacf4e3d5e"), looks := true }, kinds := [], alts := [], laidByText := true, laidKinds := [.data, .data, .data], laidTests := true, laidLooks := .later }
def ShowTellsCardSaid : Prop := Claim7.holds Tryd.pinned (.plain (OpenSpec.ofChange showTellsSpec)) showTellsCard

/-- THE TIED CARD OF 'doubletlaw10.ShapeTells'. -/
def shapeTellsCard : Claim7 := { stood := { row := shapeTellsRow, standIns := [], harness := (true, "05b4677b48d804867bf9bb048068b8d2c9b315696325b272759633bacf4e3d5e"), looks := true }, kinds := [], alts := [], laidByText := true, laidKinds := [.data, .data, .data], laidTests := true, laidLooks := .later }
def ShapeTellsCardSaid : Prop := Claim7.holds Tryd.pinned (.plain (OpenSpec.ofChange shapeTellsSpec)) shapeTellsCard

/-- THE TIED CARD OF 'doubletlaw10.ShapeKids'. -/
def shapeKidsCard : Claim7 := { stood := { row := shapeKidsRow, standIns := [], harness := (true, "05b4677b48d804867bf9bb048068b8d2c9b315696325b272759633bacf4e3d5e"), looks := true }, kinds := [], alts := [], laidByText := true, laidKinds := [.data, .data, .data], laidTests := true, laidLooks := .later }
def ShapeKidsCardSaid : Prop := Claim7.holds Tryd.pinned (.plain (OpenSpec.ofChange shapeKidsSpec)) shapeKidsCard

/-- THE TIED CARD OF 'doubletlaw06.PtrBack'. -/
def ptrBackCard : Claim7 := { stood := { row := ptrBackRow, standIns := [], harness := (true, "05b4677b48d804867bf9bb048068b8d2c9b315696325b272759633bacf4e3d5e"), looks := true }, kinds := [], alts := [], laidByText := true, laidKinds := [.data, .pinned], laidTests := true, laidLooks := .later }
def PtrBackCardSaid : Prop := Claim7.holds Tryd.pinned (.plain (OpenSpec.ofChange ptrBackSpec)) ptrBackCard

/-- THE SECOND FORM's CARD OF 'doubletlaw02.StrBack'. -/
def strBackUptoCard : Claim7 := { stood := { row := strBackUptoRow, standIns := [], harness := (true, "05b4677b48d804867bf9bb048068b8d2c9b315696325b272759633bacf4e3d5e"), looks := true }, kinds := [], alts := [], laidByText := true, laidKinds := [.data, .pinned], laidTests := true, laidLooks := .later }
def StrBackUptoCardSaid : Prop := Claim7.holds Tryd.pinned (.plain (OpenSpec.upto strBackSpec)) strBackUptoCard

/-- THE SECOND FORM's CARD OF 'doubletlaw05.ShowTells'. -/
def showTellsUptoCard : Claim7 := { stood := { row := showTellsUptoRow, standIns := [], harness := (true, "05b4677b48d804867bf9bb048068b8d2c9b315696325b272759633bacf4e3d5e"), looks := true }, kinds := [], alts := [], laidByText := true, laidKinds := [.data, .data, .data], laidTests := true, laidLooks := .later }
def ShowTellsUptoCardSaid : Prop := Claim7.holds Tryd.pinned (.plain (OpenSpec.upto showTellsSpec)) showTellsUptoCard

/-- THE SECOND FORM's CARD OF 'doubletlaw10.ShapeTells'. -/
def shapeTellsUptoCard : Claim7 := { stood := { row := shapeTellsUptoRow, standIns := [], harness := (true, "05b4677b48d804867bf9bb048068b8d2c9b315696325b272759633bacf4e3d5e"), looks := true }, kinds := [], alts := [], laidByText := true, laidKinds := [.data, .data, .data], laidTests := true, laidLooks := .later }
def ShapeTellsUptoCardSaid : Prop := Claim7.holds Tryd.pinned (.plain (OpenSpec.upto shapeTellsSpec)) shapeTellsUptoCard

/-- THE SECOND FORM's CARD OF 'doubletlaw10.ShapeKids'. -/
def shapeKidsUptoCard : Claim7 := { stood := { row := shapeKidsUptoRow, standIns := [], harness := (true, "05b4677b48d804867bf9bb048068b8d2c9b315696325b272759633bacf4e3d5e"), looks := true }, kinds := [], alts := [], laidByText := true, laidKinds := [.data, .data, .data], laidTests := true, laidLooks := .later }
def ShapeKidsUptoCardSaid : Prop := Claim7.holds Tryd.pinned (.plain (OpenSpec.upto shapeKidsSpec)) shapeKidsUptoCard

/-- THE SECOND FORM's CARD OF 'doubletlaw06.PtrBack'. -/
def ptrBackUptoCard : Claim7 := { stood := { row := ptrBackUptoRow, standIns := [], harness := (true, "05b4677b48d804867bf9bb048068b8d2c9b315696325b272759633bacf4e3d5e"), looks := true }, kinds := [], alts := [], laidByText := true, laidKinds := [.data, .pinned], laidTests := true, laidLooks := .later }
def PtrBackUptoCardSaid : Prop := Claim7.holds Tryd.pinned (.plain (OpenSpec.upto ptrBackSpec)) ptrBackUptoCard
end Rows
end Go.Proofs.YtnnmpiagmpbebaaDoor
