/-
  DERIVED. GIVEN WITH THE SEED: THE CARDS: each row of YtiihpckdafldkaaDoorRows.lean that lists a variable, with what it lists TIED to the program's text (the seventh form; the later family's looks); each row that meets fmt, with fmt's text TOLD by the authors' own Lean function (tested against real Go, not proved from fmt's source: count such statements apart). THE CARD IS WHAT COUNTS. Prove the row's statement (the work); the ties are given (YtiihpckdafldkaaDoorTie.lean); close each card by the builder's one call (the guide's Derived/Test/ToyasCard.lean, 'card_holds'). Laid BY PROGRAM, IN A SANDBOX (cutbox-door.mjs). By AI agents, Wed Nov 11 2026. No macro, syntax, notation, axiom, sorry.
-/
import Derived.Test.YtiihpckdafldkaaDoorRows
import GoSem.ClaimSeven
namespace Go.Proofs.YtiihpckdafldkaaDoor
namespace Rows

/-- THE TIED CARD OF 'doubletlaw03.ValueMays'. -/
def valueMaysCard : Claim7 := { stood := { row := valueMaysRow, standIns := [], harness := (true, "d68e181e26ea8a9958c638af1644b05504f510026403f3b5acb9fbe3c2ab31db"), looks := true }, kinds := [], alts := [], laidByText := true, laidKinds := [.data, .pinned], laidTests := true, laidLooks := .later }
def ValueMaysCardSaid : Prop := Claim7.holds Tryd.pinned (.plain (OpenSpec.ofChange valueMaysSpec)) valueMaysCard

/-- THE TIED CARD OF 'doubletlaw03.ValueTells'. -/
def valueTellsCard : Claim7 := { stood := { row := valueTellsRow, standIns := [], harness := (true, "d68e181e26ea8a9958c638af1644b05504f510026403f3b5acb9fbe3c2ab31db"), looks := true }, kinds := [], alts := [], laidByText := true, laidKinds := [.data, .pinned], laidTests := true, laidLooks := .later }
def ValueTellsCardSaid : Prop := Claim7.holds Tryd.pinned (.plain (OpenSpec.ofChange valueTellsSpec)) valueTellsCard

/-- THE TIED CARD OF 'doubletlaw03.ValueSame'. -/
def valueSameCard : Claim7 := { stood := { row := valueSameRow, standIns := [], harness := (true, "d68e181e26ea8a9958c638af1644b05504f510026403f3b5acb9fbe3c2ab31db"), looks := true }, kinds := [], alts := [], laidByText := true, laidKinds := [.data, .pinned], laidTests := true, laidLooks := .later }
def ValueSameCardSaid : Prop := Claim7.holds Tryd.pinned (.plain (OpenSpec.ofChange valueSameSpec)) valueSameCard

/-- THE TIED CARD OF 'doubletlaw02.StrTells'. -/
def strTellsCard : Claim7 := { stood := { row := strTellsRow, standIns := [], harness := (true, "d68e181e26ea8a9958c638af1644b05504f510026403f3b5acb9fbe3c2ab31db"), looks := true }, kinds := [], alts := [], laidByText := true, laidKinds := [.data, .pinned], laidTests := true, laidLooks := .later }
def StrTellsCardSaid : Prop := Claim7.holds Tryd.pinned (.plain (OpenSpec.ofChange strTellsSpec)) strTellsCard

/-- THE TIED CARD OF 'doubletlaw02.StrBack'. -/
def strBackCard : Claim7 := { stood := { row := strBackRow, standIns := [], harness := (true, "d68e181e26ea8a9958c638af1644b05504f510026403f3b5acb9fbe3c2ab31db"), looks := true }, kinds := [], alts := [], laidByText := true, laidKinds := [.data, .pinned], laidTests := true, laidLooks := .later }
def StrBackCardSaid : Prop := Claim7.holds Tryd.pinned (.plain (OpenSpec.ofChange strBackSpec)) strBackCard

/-- THE SECOND FORM's CARD OF 'doubletlaw03.ValueMays'. -/
def valueMaysUptoCard : Claim7 := { stood := { row := valueMaysUptoRow, standIns := [], harness := (true, "d68e181e26ea8a9958c638af1644b05504f510026403f3b5acb9fbe3c2ab31db"), looks := true }, kinds := [], alts := [], laidByText := true, laidKinds := [.data, .pinned], laidTests := true, laidLooks := .later }
def ValueMaysUptoCardSaid : Prop := Claim7.holds Tryd.pinned (.plain (OpenSpec.upto valueMaysSpec)) valueMaysUptoCard

/-- THE SECOND FORM's CARD OF 'doubletlaw03.ValueTells'. -/
def valueTellsUptoCard : Claim7 := { stood := { row := valueTellsUptoRow, standIns := [], harness := (true, "d68e181e26ea8a9958c638af1644b05504f510026403f3b5acb9fbe3c2ab31db"), looks := true }, kinds := [], alts := [], laidByText := true, laidKinds := [.data, .pinned], laidTests := true, laidLooks := .later }
def ValueTellsUptoCardSaid : Prop := Claim7.holds Tryd.pinned (.plain (OpenSpec.upto valueTellsSpec)) valueTellsUptoCard

/-- THE SECOND FORM's CARD OF 'doubletlaw03.ValueSame'. -/
def valueSameUptoCard : Claim7 := { stood := { row := valueSameUptoRow, standIns := [], harness := (true, "d68e181e26ea8a9958c638af1644b05504f510026403f3b5acb9fbe3c2ab31db"), looks := true }, kinds := [], alts := [], laidByText := true, laidKinds := [.data, .pinned], laidTests := true, laidLooks := .later }
def ValueSameUptoCardSaid : Prop := Claim7.holds Tryd.pinned (.plain (OpenSpec.upto valueSameSpec)) valueSameUptoCard

/-- THE SECOND FORM's CARD OF 'doubletlaw02.StrTells'. -/
def strTellsUptoCard : Claim7 := { stood := { row := strTellsUptoRow, standIns := [], harness := (true, "d68e181e26ea8a9958c638af1644b05504f510026403f3b5acb9fbe3c2ab31db"), looks := true }, kinds := [], alts := [], laidByText := true, laidKinds := [.data, .pinned], laidTests := true, laidLooks := .later }
def StrTellsUptoCardSaid : Prop := Claim7.holds Tryd.pinned (.plain (OpenSpec.upto strTellsSpec)) strTellsUptoCard

/-- THE SECOND FORM's CARD OF 'doubletlaw02.StrBack'. -/
def strBackUptoCard : Claim7 := { stood := { row := strBackUptoRow, standIns := [], harness := (true, "d68e181e26ea8a9958c638af1644b05504f510026403f3b5acb9fbe3c2ab31db"), looks := true }, kinds := [], alts := [], laidByText := true, laidKinds := [.data, .pinned], laidTests := true, laidLooks := .later }
def StrBackUptoCardSaid : Prop := Claim7.holds Tryd.pinned (.plain (OpenSpec.upto strBackSpec)) strBackUptoCard
end Rows
end Go.Proofs.YtiihpckdafldkaaDoor
