/- What was quoted is unquoted as it was, whatever stands around it; cut off it is refused; what was unquoted, quoted, is unquoted as it was (StrBack), for all arguments that a machine can hold -/
import Derived.Test.YtnnmpiagmpbebaaDoorP6
import Derived.Test.YtnnmpiagmpbebaaDoorTie
import Derived.Test.YtnnmpiagmpbebaaDoorCards
import Derived.SevenTiedAt
set_option linter.unusedVariables false
set_option linter.unusedSimpArgs false
set_option linter.unusedSectionVars false
set_option maxRecDepth 100000
namespace Go.Proofs.YtnnmpiagmpbebaaDoor
open Go
/-- THE TIED CARD of doubletlaw02.StrBack. -/
theorem strBack_card : Rows.StrBackCardSaid :=
  Claim7.holds_tied_plain_at .later [] [.data, .pinned] true (true, "05b4677b48d804867bf9bb048068b8d2c9b315696325b272759633bacf4e3d5e") true
    strBack_holds (fun _ h => by cases h) (by kernel_rfl) (fun _ h => by cases h) strBack_row_tie rfl ⟨rfl, rfl⟩ (by kernel_rfl) rfl
    (fun f fn hf hfn => by
      obtain rfl : f = 3 := Option.some.inj ((show Tryd.prog.funcNamed "doublet/doubletlaw02.StrBack" = some 3 by kernel_rfl).symm.trans hf) |>.symm
      obtain rfl : fn = Tryd.f3 := (Option.some.inj (Tryd.func3.symm.trans hfn)).symm
      exact ⟨by kernel_rfl, fun j t ht => by
        rw [Tryd.params3] at ht
        match j, ht with
        | 0, ht => obtain rfl : t = 9 := by simpa using ht.symm
                   exact (show Tryd.prog.wantsStandIn 9 = false by kernel_rfl)
        | 1, ht => obtain rfl : t = 9 := by simpa using ht.symm
                   exact (show Tryd.prog.wantsStandIn 9 = false by kernel_rfl)
        | 2, ht => obtain rfl : t = 9 := by simpa using ht.symm
                   exact (show Tryd.prog.wantsStandIn 9 = false by kernel_rfl)
        | 3, ht => obtain rfl : t = 3 := by simpa using ht.symm
                   exact (show Tryd.prog.wantsStandIn 3 = false by kernel_rfl)
        | 4, ht => obtain rfl : t = 9 := by simpa using ht.symm
                   exact (show Tryd.prog.wantsStandIn 9 = false by kernel_rfl)
        | j + 5, ht => simp at ht⟩)
    (by kernel_rfl)
#print axioms strBack_card
end Go.Proofs.YtnnmpiagmpbebaaDoor
