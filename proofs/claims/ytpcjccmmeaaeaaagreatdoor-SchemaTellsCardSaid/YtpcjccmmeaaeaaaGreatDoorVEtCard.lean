/- Whatever text is handed in: the nodes that the program compiles of its value as a schema are the document's, and what is amiss is told with the document's number and pointer. -/
import Derived.Test.YtpcjccmmeaaeaaaGreatDoorS10
import Derived.Test.YtpcjccmmeaaeaaaGreatDoorTie
import Derived.Test.YtpcjccmmeaaeaaaGreatDoorCards
import Derived.SevenTiedAt
set_option linter.unusedVariables false
set_option linter.unusedSimpArgs false
set_option linter.unusedSectionVars false
set_option maxRecDepth 100000
namespace Go.Proofs.YtpcjccmmeaaeaaaGreatDoor
open Go
theorem schemaTells_card : Rows.SchemaTellsCardSaid :=
  Claim7.holds_tied_plain_at .later [] [.data, .data, .data, .data, .handle, .pinned] true (true, "a79fc1138a3f3e1db2830359bb2d6fe0465f2aeabed8d9d7cb346b43824f6f3c") true
    schemaTells_holds (fun _ h => by cases h) (by kernel_rfl) (fun _ h => by cases h) schemaTells_row_tie rfl ⟨rfl, rfl⟩ (by kernel_rfl) rfl
    (fun f fn hf hfn => by
      obtain rfl : f = 3 := Option.some.inj ((show Tryz.prog.funcNamed "doublet/doubletlaw11.SchemaTells" = some 3 by kernel_rfl).symm.trans hf) |>.symm
      obtain rfl : fn = Tryz.f3 := (Option.some.inj (Tryz.func3.symm.trans hfn)).symm
      exact ⟨by kernel_rfl, fun j t ht => by
        rw [Tryz.params3] at ht
        match j, ht with
        | 0, ht => obtain rfl : t = 9 := by simpa using ht.symm
                   exact (show Tryz.prog.wantsStandIn 9 = false by kernel_rfl)
        | j + 1, ht => simp at ht⟩)
    (by kernel_rfl)
#print axioms schemaTells_card
end Go.Proofs.YtpcjccmmeaaeaaaGreatDoor
