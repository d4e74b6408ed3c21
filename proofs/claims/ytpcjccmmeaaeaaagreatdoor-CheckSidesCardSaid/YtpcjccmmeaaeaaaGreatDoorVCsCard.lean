/- A value passes the const and the one-element enum of itself; numbers pass minimum, maximum, const as they stand to each other; a doubled list is not unique. -/
import Derived.Test.YtpcjccmmeaaeaaaGreatDoorD11
import Derived.Test.YtpcjccmmeaaeaaaGreatDoorTie
import Derived.Test.YtpcjccmmeaaeaaaGreatDoorCards
import Derived.SevenTiedAt
set_option linter.unusedVariables false
set_option linter.unusedSimpArgs false
set_option linter.unusedSectionVars false
set_option maxRecDepth 100000
namespace Go.Proofs.YtpcjccmmeaaeaaaGreatDoor
open Go
theorem checkSides_card : Rows.CheckSidesCardSaid :=
  Claim7.holds_tied_plain_at .later [] [.data, .data, .data, .data, .sentinel, .sentinel, .pinned] true (true, "a79fc1138a3f3e1db2830359bb2d6fe0465f2aeabed8d9d7cb346b43824f6f3c") true
    checkSides_holds (fun _ h => by cases h) (by kernel_rfl) (fun _ h => by cases h) checkSides_row_tie rfl ⟨rfl, rfl⟩ (by kernel_rfl) rfl
    (fun f fn hf hfn => by
      obtain rfl : f = 6 := Option.some.inj ((show Tryz.prog.funcNamed "doublet/doubletlaw14.CheckSides" = some 6 by kernel_rfl).symm.trans hf) |>.symm
      obtain rfl : fn = Tryz.f6 := (Option.some.inj (Tryz.func6.symm.trans hfn)).symm
      exact ⟨by kernel_rfl, fun j t ht => by
        rw [Tryz.params6] at ht
        match j, ht with
        | 0, ht => obtain rfl : t = 9 := by simpa using ht.symm
                   exact (show Tryz.prog.wantsStandIn 9 = false by kernel_rfl)
        | 1, ht => obtain rfl : t = 9 := by simpa using ht.symm
                   exact (show Tryz.prog.wantsStandIn 9 = false by kernel_rfl)
        | j + 2, ht => simp at ht⟩)
    (by kernel_rfl)
#print axioms checkSides_card
end Go.Proofs.YtpcjccmmeaaeaaaGreatDoor
