/- For every input the law doubletlaw07.EditTells returns true: what comes of any value by adding, removing, replacing at any pointer, or what is amiss, is what the document's answer says; the input reads as it did. -/
import Derived.Test.YtdacoelmmaiffaaGreatDoorP10
import Derived.Test.YtdacoelmmaiffaaGreatDoorTie
import Derived.Test.YtdacoelmmaiffaaGreatDoorCards
import Derived.SevenTiedAt
set_option linter.unusedVariables false
set_option linter.unusedSimpArgs false
set_option linter.unusedSectionVars false
set_option maxRecDepth 100000
namespace Go.Proofs.YtdacoelmmaiffaaGreatDoor
open Go
/-- THE TIED CARD of doubletlaw07.EditTells. -/
theorem editTells_card : Rows.EditTellsCardSaid :=
  Claim7.holds_tied_plain_at .later [] [.data, .data, .data, .data, .sentinel, .sentinel, .pinned] true (true, "0901af21e5c129f7ed738ff23f59561e7163a313915c5f353a6267eaf5a9cbbd") true
    editTells_holds (fun _ h => by cases h) (by kernel_rfl) (fun _ h => by cases h) editTells_row_tie rfl ⟨rfl, rfl⟩ (by kernel_rfl) rfl
    (fun f fn hf hfn => by
      obtain rfl : f = 3 := Option.some.inj ((show Tryz.prog.funcNamed "doublet/doubletlaw07.EditTells" = some 3 by kernel_rfl).symm.trans hf) |>.symm
      obtain rfl : fn = Tryz.f3 := (Option.some.inj (Tryz.func3.symm.trans hfn)).symm
      exact ⟨by kernel_rfl, fun j t ht => by
        rw [Tryz.params3] at ht
        match j, ht with
        | 0, ht => obtain rfl : t = 9 := by simpa using ht.symm
                   exact (show Tryz.prog.wantsStandIn 9 = false by kernel_rfl)
        | 1, ht => obtain rfl : t = 9 := by simpa using ht.symm
                   exact (show Tryz.prog.wantsStandIn 9 = false by kernel_rfl)
        | 2, ht => obtain rfl : t = 9 := by simpa using ht.symm
                   exact (show Tryz.prog.wantsStandIn 9 = false by kernel_rfl)
        | j + 3, ht => simp at ht⟩)
    (by kernel_rfl)
#print axioms editTells_card
end Go.Proofs.YtdacoelmmaiffaaGreatDoor
