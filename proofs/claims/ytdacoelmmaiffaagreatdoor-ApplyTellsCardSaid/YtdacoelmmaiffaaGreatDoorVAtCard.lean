/- For every input the law doubletlaw09.ApplyTells returns true: what comes of any value by any patch, or what is amiss, at which operation, is what the document's answer says; the input reads as it did. -/
import Derived.Test.YtdacoelmmaiffaaGreatDoorR11
import Derived.Test.YtdacoelmmaiffaaGreatDoorTie
import Derived.Test.YtdacoelmmaiffaaGreatDoorCards
import Derived.SevenTiedAt
set_option linter.unusedVariables false
set_option linter.unusedSimpArgs false
set_option linter.unusedSectionVars false
set_option maxRecDepth 100000
namespace Go.Proofs.YtdacoelmmaiffaaGreatDoor
open Go
theorem applyTells_card : Rows.ApplyTellsCardSaid :=
  Claim7.holds_tied_plain_at .later [] [.data, .data, .data, .data, .handle, .sentinel, .sentinel, .pinned] true (true, "0901af21e5c129f7ed738ff23f59561e7163a313915c5f353a6267eaf5a9cbbd") true
    applyTells_holds (fun _ h => by cases h) (by kernel_rfl) (fun _ h => by cases h) applyTells_row_tie rfl ⟨rfl, rfl⟩ (by kernel_rfl) rfl
    (fun f fn hf hfn => by
      obtain rfl : f = 5 := Option.some.inj ((show Tryz.prog.funcNamed "doublet/doubletlaw09.ApplyTells" = some 5 by kernel_rfl).symm.trans hf) |>.symm
      obtain rfl : fn = Tryz.f5 := (Option.some.inj (Tryz.func5.symm.trans hfn)).symm
      exact ⟨by kernel_rfl, fun j t ht => by
        rw [Tryz.params5] at ht
        match j, ht with
        | 0, ht => obtain rfl : t = 9 := by simpa using ht.symm
                   exact (show Tryz.prog.wantsStandIn 9 = false by kernel_rfl)
        | 1, ht => obtain rfl : t = 9 := by simpa using ht.symm
                   exact (show Tryz.prog.wantsStandIn 9 = false by kernel_rfl)
        | j + 2, ht => simp at ht⟩)
    (by kernel_rfl)
#print axioms applyTells_card
end Go.Proofs.YtdacoelmmaiffaaGreatDoor
