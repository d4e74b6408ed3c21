/- ValueSame: Same is of one value with itself, both ways, and on from one to the next, and what follows of size, depth and members; for every input, with no condition -/
import Derived.Test.YtiihpckdafldkaaDoorP12
import Derived.Test.YtiihpckdafldkaaDoorTie
import Derived.Test.YtiihpckdafldkaaDoorCards
import Derived.SevenTiedAt
set_option linter.unusedVariables false
set_option linter.unusedSimpArgs false
set_option linter.unusedSectionVars false
set_option maxRecDepth 100000
namespace Go.Proofs.YtiihpckdafldkaaDoor
open Go
/-- THE TIED CARD of doubletlaw03.ValueSame. -/
theorem valueSame_card : Rows.ValueSameCardSaid :=
  Claim7.holds_tied_plain_at .later [] [.data, .pinned] true (true, "d68e181e26ea8a9958c638af1644b05504f510026403f3b5acb9fbe3c2ab31db") true
    valueSame_holds (fun _ h => by cases h) (by kernel_rfl) (fun _ h => by cases h) valueSame_row_tie rfl ⟨rfl, rfl⟩ (by kernel_rfl) rfl
    (fun f fn hf hfn => by
      obtain rfl : f = 5 := Option.some.inj ((show Tryd.prog.funcNamed "doublet/doubletlaw03.ValueSame" = some 5 by kernel_rfl).symm.trans hf) |>.symm
      obtain rfl : fn = Tryd.f5 := (Option.some.inj (Tryd.func5.symm.trans hfn)).symm
      exact ⟨by kernel_rfl, fun j t ht => by
        rw [Tryd.params5] at ht
        match j, ht with
        | 0, ht => obtain rfl : t = 9 := by simpa using ht.symm
                   exact (show Tryd.prog.wantsStandIn 9 = false by kernel_rfl)
        | 1, ht => obtain rfl : t = 9 := by simpa using ht.symm
                   exact (show Tryd.prog.wantsStandIn 9 = false by kernel_rfl)
        | 2, ht => obtain rfl : t = 9 := by simpa using ht.symm
                   exact (show Tryd.prog.wantsStandIn 9 = false by kernel_rfl)
        | j + 3, ht => simp at ht⟩)
    (by kernel_rfl)
#print axioms valueSame_card
end Go.Proofs.YtiihpckdafldkaaDoor
