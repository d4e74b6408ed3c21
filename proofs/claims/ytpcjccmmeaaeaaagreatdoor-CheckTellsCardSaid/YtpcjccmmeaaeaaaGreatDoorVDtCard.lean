/- Whatever two texts are handed in: of each node of the first one's schema the program tells just those keywords that the second one's value fails by the document. -/
import Derived.Test.YtpcjccmmeaaeaaaGreatDoorC11
import Derived.Test.YtpcjccmmeaaeaaaGreatDoorTie
import Derived.Test.YtpcjccmmeaaeaaaGreatDoorCards
import Derived.SevenTiedAt
set_option linter.unusedVariables false
set_option linter.unusedSimpArgs false
set_option linter.unusedSectionVars false
set_option maxRecDepth 100000
namespace Go.Proofs.YtpcjccmmeaaeaaaGreatDoor
open Go
theorem checkTells_card : Rows.CheckTellsCardSaid :=
  Claim7.holds_tied_plain_at .later [] [.data, .data, .data, .data, .sentinel, .sentinel, .pinned] true (true, "a79fc1138a3f3e1db2830359bb2d6fe0465f2aeabed8d9d7cb346b43824f6f3c") true
    checkTells_holds (fun _ h => by cases h) (by kernel_rfl) (fun _ h => by cases h) checkTells_row_tie rfl ⟨rfl, rfl⟩ (by kernel_rfl) rfl
    (fun f fn hf hfn => by
      obtain rfl : f = 5 := Option.some.inj ((show Tryz.prog.funcNamed "doublet/doubletlaw14.CheckTells" = some 5 by kernel_rfl).symm.trans hf) |>.symm
      obtain rfl : fn = Tryz.f5 := (Option.some.inj (Tryz.func5.symm.trans hfn)).symm
      exact ⟨by kernel_rfl, fun j t ht => by
        rw [Tryz.params5] at ht
        match j, ht with
        | 0, ht => obtain rfl : t = 9 := by simpa using ht.symm
                   exact (show Tryz.prog.wantsStandIn 9 = false by kernel_rfl)
        | 1, ht => obtain rfl : t = 9 := by simpa using ht.symm
                   exact (show Tryz.prog.wantsStandIn 9 = false by kernel_rfl)
        | j + 2, ht => simp at ht⟩)
    (by kernel_rfl)
#print axioms checkTells_card
end Go.Proofs.YtpcjccmmeaaeaaaGreatDoor
