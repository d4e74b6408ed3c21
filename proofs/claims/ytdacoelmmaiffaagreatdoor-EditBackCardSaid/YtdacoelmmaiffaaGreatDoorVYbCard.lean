/- For every input the law doubletlaw07.EditBack returns true: what was added, or replaced, is there; what was added and was not there, removed again, leaves all as it was; what was removed, added again, too; the value stays as it is; the input reads as it did. -/
import Derived.Test.YtdacoelmmaiffaaGreatDoorQ10
import Derived.Test.YtdacoelmmaiffaaGreatDoorTie
import Derived.Test.YtdacoelmmaiffaaGreatDoorCards
import Derived.SevenTiedAt
set_option linter.unusedVariables false
set_option linter.unusedSimpArgs false
set_option linter.unusedSectionVars false
set_option maxRecDepth 100000
namespace Go.Proofs.YtdacoelmmaiffaaGreatDoor
open Go
/-- THE TIED CARD of doubletlaw07.EditBack. -/
theorem editBack_card : Rows.EditBackCardSaid :=
  Claim7.holds_tied_plain_at .later [] [.data, .data, .data, .data, .sentinel, .sentinel, .pinned] true (true, "0901af21e5c129f7ed738ff23f59561e7163a313915c5f353a6267eaf5a9cbbd") true
    editBack_holds (fun _ h => by cases h) (by kernel_rfl) (fun _ h => by cases h) editBack_row_tie rfl ⟨rfl, rfl⟩ (by kernel_rfl) rfl
    (fun f fn hf hfn => by
      obtain rfl : f = 4 := Option.some.inj ((show Tryz.prog.funcNamed "doublet/doubletlaw07.EditBack" = some 4 by kernel_rfl).symm.trans hf) |>.symm
      obtain rfl : fn = Tryz.f4 := (Option.some.inj (Tryz.func4.symm.trans hfn)).symm
      exact ⟨by kernel_rfl, fun j t ht => by
        rw [Tryz.params4] at ht
        match j, ht with
        | 0, ht => obtain rfl : t = 9 := by simpa using ht.symm
                   exact (show Tryz.prog.wantsStandIn 9 = false by kernel_rfl)
        | 1, ht => obtain rfl : t = 9 := by simpa using ht.symm
                   exact (show Tryz.prog.wantsStandIn 9 = false by kernel_rfl)
        | 2, ht => obtain rfl : t = 9 := by simpa using ht.symm
                   exact (show Tryz.prog.wantsStandIn 9 = false by kernel_rfl)
        | j + 3, ht => simp at ht⟩)
    (by kernel_rfl)
#print axioms editBack_card
end Go.Proofs.YtdacoelmmaiffaaGreatDoor
