/- For every input the law doubletlaw09.ApplyParts returns true: a patch's beginning, and then the rest, is the patch: the same value, or the same error at the same operation; the value stays as it is; a test of what is there changes nothing; the input reads as it did. -/
import Derived.Test.YtdacoelmmaiffaaGreatDoorS10
import Derived.Test.YtdacoelmmaiffaaGreatDoorTie
import Derived.Test.YtdacoelmmaiffaaGreatDoorCards
import Derived.SevenTiedAt
set_option linter.unusedVariables false
set_option linter.unusedSimpArgs false
set_option linter.unusedSectionVars false
set_option maxRecDepth 100000
namespace Go.Proofs.YtdacoelmmaiffaaGreatDoor
open Go
theorem applyParts_card : Rows.ApplyPartsCardSaid :=
  Claim7.holds_tied_plain_at .later [] [.data, .data, .data, .data, .handle, .sentinel, .sentinel, .pinned] true (true, "0901af21e5c129f7ed738ff23f59561e7163a313915c5f353a6267eaf5a9cbbd") true
    applyParts_holds (fun _ h => by cases h) (by kernel_rfl) (fun _ h => by cases h) applyParts_row_tie rfl ⟨rfl, rfl⟩ (by kernel_rfl) rfl
    (fun f fn hf hfn => by
      obtain rfl : f = 6 := Option.some.inj ((show Tryz.prog.funcNamed "doublet/doubletlaw09.ApplyParts" = some 6 by kernel_rfl).symm.trans hf) |>.symm
      obtain rfl : fn = Tryz.f6 := (Option.some.inj (Tryz.func6.symm.trans hfn)).symm
      exact ⟨by kernel_rfl, fun j t ht => by
        rw [Tryz.params6] at ht
        match j, ht with
        | 0, ht => obtain rfl : t = 9 := by simpa using ht.symm
                   exact (show Tryz.prog.wantsStandIn 9 = false by kernel_rfl)
        | 1, ht => obtain rfl : t = 9 := by simpa using ht.symm
                   exact (show Tryz.prog.wantsStandIn 9 = false by kernel_rfl)
        | 2, ht => obtain rfl : t = 3 := by simpa using ht.symm
                   exact (show Tryz.prog.wantsStandIn 3 = false by kernel_rfl)
        | 3, ht => obtain rfl : t = 9 := by simpa using ht.symm
                   exact (show Tryz.prog.wantsStandIn 9 = false by kernel_rfl)
        | j + 4, ht => simp at ht⟩)
    (by kernel_rfl)
#print axioms applyParts_card
end Go.Proofs.YtdacoelmmaiffaaGreatDoor
