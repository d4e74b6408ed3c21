/-
  DERIVED. GIVEN WITH THE SEED: THE CARDS: each row of YtjnofdnoboibpaaDoorRows.lean that lists a variable, with what it lists TIED to the program's text (the seventh form; the later family's looks); each row that meets fmt, with fmt's text TOLD by the authors' own Lean function (tested against real Go, not proved from fmt's source: count such statements apart). THE CARD IS WHAT COUNTS. Prove the row's statement (the work); the ties are given (YtjnofdnoboibpaaDoorTie.lean); close each card by the builder's one call (the guide's Derived/Test/ToyasCard.lean, 'card_holds'). Laid BY PROGRAM, IN A SANDBOX (cutbox-door.mjs). By AI agents, Wed Nov 11 2026. No macro, syntax, notation, axiom, sorry.
-/
import Derived.Test.YtjnofdnoboibpaaDoorRows
import GoSem.ClaimSeven
namespace Go.Proofs.YtjnofdnoboibpaaDoor
namespace Rows

/-- THE TIED CARD OF 'doubletlaw12.RefsTells'. -/
def refsTellsCard : Claim7 := { stood := { row := refsTellsRow, standIns := [], harness := (true, "308725dd00c0708b081e2b0abf40c43534c2371900aadc8584728b915ec35a9c"), looks := true }, kinds := [], alts := [], laidByText := true, laidKinds := [.data, .pinned], laidTests := true, laidLooks := .later }
def RefsTellsCardSaid : Prop := Claim7.holds Tryd.pinned (.plain (OpenSpec.ofChange refsTellsSpec)) refsTellsCard

/-- THE TIED CARD OF 'doubletlaw12.RefsEnd'. -/
def refsEndCard : Claim7 := { stood := { row := refsEndRow, standIns := [], harness := (true, "308725dd00c0708b081e2b0abf40c43534c2371900aadc8584728b915ec35a9c"), looks := true }, kinds := [], alts := [], laidByText := true, laidKinds := [.data, .pinned], laidTests := true, laidLooks := .later }
def RefsEndCardSaid : Prop := Claim7.holds Tryd.pinned (.plain (OpenSpec.ofChange refsEndSpec)) refsEndCard

/-- THE TIED CARD OF 'doubletlaw08.PatchTells'. -/
def patchTellsCard : Claim7 := { stood := { row := patchTellsRow, standIns := [], harness := (true, "308725dd00c0708b081e2b0abf40c43534c2371900aadc8584728b915ec35a9c"), looks := true }, kinds := [], alts := [], laidByText := true, laidKinds := [.data, .pinned], laidTests := true, laidLooks := .later }
def PatchTellsCardSaid : Prop := Claim7.holds Tryd.pinned (.plain (OpenSpec.ofChange patchTellsSpec)) patchTellsCard

/-- THE TIED CARD OF 'doubletlaw08.PatchMore'. -/
def patchMoreCard : Claim7 := { stood := { row := patchMoreRow, standIns := [], harness := (true, "308725dd00c0708b081e2b0abf40c43534c2371900aadc8584728b915ec35a9c"), looks := true }, kinds := [], alts := [], laidByText := true, laidKinds := [.data, .pinned], laidTests := true, laidLooks := .later }
def PatchMoreCardSaid : Prop := Claim7.holds Tryd.pinned (.plain (OpenSpec.ofChange patchMoreSpec)) patchMoreCard

/-- THE TIED CARD OF 'doubletlaw13.FaultsTells'. -/
def faultsTellsCard : Claim7 := { stood := { row := faultsTellsRow, standIns := [], harness := (true, "308725dd00c0708b081e2b0abf40c43534c2371900aadc8584728b915ec35a9c"), looks := true }, kinds := [], alts := [], laidByText := true, laidKinds := [.data, .pinned], laidTests := true, laidLooks := .later }
def FaultsTellsCardSaid : Prop := Claim7.holds Tryd.pinned (.plain (OpenSpec.ofChange faultsTellsSpec)) faultsTellsCard

/-- THE TIED CARD OF 'doubletlaw13.FaultsBoth'. -/
def faultsBothCard : Claim7 := { stood := { row := faultsBothRow, standIns := [], harness := (true, "308725dd00c0708b081e2b0abf40c43534c2371900aadc8584728b915ec35a9c"), looks := true }, kinds := [], alts := [], laidByText := true, laidKinds := [.data, .pinned], laidTests := true, laidLooks := .later }
def FaultsBothCardSaid : Prop := Claim7.holds Tryd.pinned (.plain (OpenSpec.ofChange faultsBothSpec)) faultsBothCard

/-- THE SECOND FORM's CARD OF 'doubletlaw12.RefsTells'. -/
def refsTellsUptoCard : Claim7 := { stood := { row := refsTellsUptoRow, standIns := [], harness := (true, "308725dd00c0708b081e2b0abf40c43534c2371900aadc8584728b915ec35a9c"), looks := true }, kinds := [], alts := [], laidByText := true, laidKinds := [.data, .pinned], laidTests := true, laidLooks := .later }
def RefsTellsUptoCardSaid : Prop := Claim7.holds Tryd.pinned (.plain (OpenSpec.upto refsTellsSpec)) refsTellsUptoCard

/-- THE SECOND FORM's CARD OF 'doubletlaw12.RefsEnd'. -/
def refsEndUptoCard : Claim7 := { stood := { row := refsEndUptoRow, standIns := [], harness := (true, "308725dd00c0708b081e2b0abf40c43534c2371900aadc8584728b915ec35a9c"), looks := true }, kinds := [], alts := [], laidByText := true, laidKinds := [.data, .pinned], laidTests := true, laidLooks := .later }
def RefsEndUptoCardSaid : Prop := Claim7.holds Tryd.pinned (.plain (OpenSpec.upto refsEndSpec)) refsEndUptoCard

/-- THE SECOND FORM's CARD OF 'doubletlaw08.PatchTells'. -/
def patchTellsUptoCard : Claim7 := { stood := { row := patchTellsUptoRow, standIns := [], harness := (true, "308725dd00c0708b081e2b0abf40c43534c2371900aadc8584728b915ec35a9c"), looks := true }, kinds := [], alts := [], laidByText := true, laidKinds := [.data, .pinned], laidTests := true, laidLooks := .later }
def PatchTellsUptoCardSaid : Prop := Claim7.holds Tryd.pinned (.plain (OpenSpec.upto patchTellsSpec)) patchTellsUptoCard

/-- THE SECOND FORM's CARD OF 'doubletlaw08.PatchMore'. -/
def patchMoreUptoCard : Claim7 := { stood := { row := patchMoreUptoRow, standIns := [], harness := (true, "308725dd00c0708b081e2b0abf40c43534c2371900aadc8584728b915ec35a9c"), looks := true }, kinds := [], alts := [], laidByText := true, laidKinds := [.data, .pinned], laidTests := true, laidLooks := .later }
def PatchMoreUptoCardSaid : Prop := Claim7.holds Tryd.pinned (.plain (OpenSpec.upto patchMoreSpec)) patchMoreUptoCard

/-- THE SECOND FORM's CARD OF 'doubletlaw13.FaultsTells'. -/
def faultsTellsUptoCard : Claim7 := { stood := { row := faultsTellsUptoRow, standIns := [], harness := (true, "308725dd00c0708b081e2b0abf40c43534c2371900aadc8584728b915ec35a9c"), looks := true }, kinds := [], alts := [], laidByText := true, laidKinds := [.data, .pinned], laidTests := true, laidLooks := .later }
def FaultsTellsUptoCardSaid : Prop := Claim7.holds Tryd.pinned (.plain (OpenSpec.upto faultsTellsSpec)) faultsTellsUptoCard

/-- THE SECOND FORM's CARD OF 'doubletlaw13.FaultsBoth'. -/
def faultsBothUptoCard : Claim7 := { stood := { row := faultsBothUptoRow, standIns := [], harness := (true, "308725dd00c0708b081e2b0abf40c43534c2371900aadc8584728b915ec35a9c"), looks := true }, kinds := [], alts := [], laidByText := true, laidKinds := [.data, .pinned], laidTests := true, laidLooks := .later }
def FaultsBothUptoCardSaid : Prop := Claim7.holds Tryd.pinned (.plain (OpenSpec.upto faultsBothSpec)) faultsBothUptoCard
end Rows
end Go.Proofs.YtjnofdnoboibpaaDoor
