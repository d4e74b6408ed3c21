/- Merge of two sorted lists is Sort of both together, either way round; sorted again a list is the same; it has all that was there, and nothing else; under a name it rises, too. -/
import Derived.Test.YtpcjccmmeaaeaaaDoorG1
set_option linter.unusedVariables false
set_option linter.unusedSimpArgs false
set_option linter.unusedSectionVars false
set_option maxRecDepth 100000
namespace Go.Proofs.YtpcjccmmeaaeaaaDoor
open Go
theorem faultsBoth_card : Rows.FaultsBothCardSaid :=
  Claim7.holds_tied_plain_at .later [] [.data, .pinned] true (true, "2e0d8af1f5933fba487a69da9122f4d10d126e6839fc45b07d801d3ada125f2d") false
    faultsBoth_holds (fun _ h => by cases h) (by kernel_rfl) (fun _ h => by cases h) faultsBoth_row_tie rfl ⟨rfl, rfl⟩ (by kernel_rfl) rfl
    (fun f fn hf hfn => by
      obtain rfl : f = 4 := Option.some.inj ((show Tryd.prog.funcNamed "doublet/doubletlaw13.FaultsBoth" = some 4 by kernel_rfl).symm.trans hf) |>.symm
      obtain rfl : fn = Tryd.f4 := (Option.some.inj (Tryd.func4.symm.trans hfn)).symm
      exact ⟨by kernel_rfl, fun j t ht => by
        rw [Tryd.params4] at ht
        match j, ht with
        | 0, ht => obtain rfl : t = 22 := by simpa using ht.symm
                   exact (show Tryd.prog.wantsStandIn 22 = false by kernel_rfl)
        | 1, ht => obtain rfl : t = 22 := by simpa using ht.symm
                   exact (show Tryd.prog.wantsStandIn 22 = false by kernel_rfl)
        | 2, ht => obtain rfl : t = 9 := by simpa using ht.symm
                   exact (show Tryd.prog.wantsStandIn 9 = false by kernel_rfl)
        | j + 3, ht => simp at ht⟩)
    (by kernel_rfl)
#print axioms faultsBoth_card
end Go.Proofs.YtpcjccmmeaaeaaaDoor
