/- StrTells: the text that stands in quotes at any place of any bytes, or what is amiss, where; any text in quotes -/
import Derived.Test.YtiihpckdafldkaaDoorP10
import Derived.Test.YtiihpckdafldkaaDoorTie
import Derived.Test.YtiihpckdafldkaaDoorCards
import Derived.SevenTiedAt
set_option linter.unusedVariables false
set_option linter.unusedSimpArgs false
set_option linter.unusedSectionVars false
set_option maxRecDepth 100000
namespace Go.Proofs.YtiihpckdafldkaaDoor
open Go
/-- THE TIED CARD of doubletlaw02.StrTells. -/
theorem strTells_card : Rows.StrTellsCardSaid :=
  Claim7.holds_tied_plain_at .later [] [.data, .pinned] true (true, "d68e181e26ea8a9958c638af1644b05504f510026403f3b5acb9fbe3c2ab31db") true
    strTells_holds (fun _ h => by cases h) (by kernel_rfl) (fun _ h => by cases h) strTells_row_tie rfl ⟨rfl, rfl⟩ (by kernel_rfl) rfl
    (fun f fn hf hfn => by
      obtain rfl : f = 6 := Option.some.inj ((show Tryd.prog.funcNamed "doublet/doubletlaw02.StrTells" = some 6 by kernel_rfl).symm.trans hf) |>.symm
      obtain rfl : fn = Tryd.f6 := (Option.some.inj (Tryd.func6.symm.trans hfn)).symm
      exact ⟨by kernel_rfl, fun j t ht => by
        rw [Tryd.params6] at ht
        match j, ht with
        | 0, ht => obtain rfl : t = 9 := by simpa using ht.symm
                   exact (show Tryd.prog.wantsStandIn 9 = false by kernel_rfl)
        | 1, ht => obtain rfl : t = 3 := by simpa using ht.symm
                   exact (show Tryd.prog.wantsStandIn 3 = false by kernel_rfl)
        | 2, ht => obtain rfl : t = 9 := by simpa using ht.symm
                   exact (show Tryd.prog.wantsStandIn 9 = false by kernel_rfl)
        | j + 3, ht => simp at ht⟩)
    (by kernel_rfl)
#print axioms strTells_card
end Go.Proofs.YtiihpckdafldkaaDoor
