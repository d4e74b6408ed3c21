/- Any faults, rising; any two lists of them, one; any, under any name: as the document has it. -/
import Derived.Test.YtpcjccmmeaaeaaaDoorF5
import Derived.Test.YtpcjccmmeaaeaaaDoorTie
import Derived.Test.YtpcjccmmeaaeaaaDoorCards
import Derived.SevenTiedAt
set_option linter.unusedVariables false
set_option linter.unusedSimpArgs false
set_option linter.unusedSectionVars false
set_option maxRecDepth 100000
namespace Go.Proofs.YtpcjccmmeaaeaaaDoor
open Go
theorem faultsTells_card : Rows.FaultsTellsCardSaid :=
  Claim7.holds_tied_plain_at .later [] [.data, .pinned] true (true, "2e0d8af1f5933fba487a69da9122f4d10d126e6839fc45b07d801d3ada125f2d") false
    faultsTells_holds (fun _ h => by cases h) (by kernel_rfl) (fun _ h => by cases h) faultsTells_row_tie rfl ⟨rfl, rfl⟩ (by kernel_rfl) rfl
    (fun f fn hf hfn => by
      obtain rfl : f = 3 := Option.some.inj ((show Tryd.prog.funcNamed "doublet/doubletlaw13.FaultsTells" = some 3 by kernel_rfl).symm.trans hf) |>.symm
      obtain rfl : fn = Tryd.f3 := (Option.some.inj (Tryd.func3.symm.trans hfn)).symm
      exact ⟨by kernel_rfl, fun j t ht => by
        rw [Tryd.params3] at ht
        match j, ht with
        | 0, ht => obtain rfl : t = 22 := by simpa using ht.symm
                   exact (show Tryd.prog.wantsStandIn 22 = false by kernel_rfl)
        | 1, ht => obtain rfl : t = 22 := by simpa using ht.symm
                   exact (show Tryd.prog.wantsStandIn 22 = false by kernel_rfl)
        | 2, ht => obtain rfl : t = 9 := by simpa using ht.symm
                   exact (show Tryd.prog.wantsStandIn 9 = false by kernel_rfl)
        | j + 3, ht => simp at ht⟩)
    (by kernel_rfl)
#print axioms faultsTells_card
end Go.Proofs.YtpcjccmmeaaeaaaDoor
