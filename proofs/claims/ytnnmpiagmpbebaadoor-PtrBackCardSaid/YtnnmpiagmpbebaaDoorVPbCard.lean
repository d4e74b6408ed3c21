/- What was shown is parsed; what is parsed is shown; two pointers one behind the other are both's names. -/
import Derived.Test.YtnnmpiagmpbebaaDoorP7
import Derived.Test.YtnnmpiagmpbebaaDoorTie
import Derived.Test.YtnnmpiagmpbebaaDoorCards
import Derived.SevenTiedAt
set_option linter.unusedVariables false
set_option linter.unusedSimpArgs false
set_option linter.unusedSectionVars false
set_option maxRecDepth 100000
namespace Go.Proofs.YtnnmpiagmpbebaaDoor
open Go
/-- THE TIED CARD of doubletlaw06.PtrBack. -/
theorem ptrBack_card : Rows.PtrBackCardSaid :=
  Claim7.holds_tied_plain_at .later [] [.data, .pinned] true (true, "05b4677b48d804867bf9bb048068b8d2c9b315696325b272759633bacf4e3d5e") true
    ptrBack_holds (fun _ h => by cases h) (by kernel_rfl) (fun _ h => by cases h) ptrBack_row_tie rfl ⟨rfl, rfl⟩ (by kernel_rfl) rfl
    (fun f fn hf hfn => by
      obtain rfl : f = 7 := Option.some.inj ((show Tryd.prog.funcNamed "doublet/doubletlaw06.PtrBack" = some 7 by kernel_rfl).symm.trans hf) |>.symm
      obtain rfl : fn = Tryd.f7 := (Option.some.inj (Tryd.func7.symm.trans hfn)).symm
      exact ⟨by kernel_rfl, fun j t ht => by
        rw [Tryd.params7] at ht
        match j, ht with
        | 0, ht => obtain rfl : t = 48 := by simpa using ht.symm
                   exact (show Tryd.prog.wantsStandIn 48 = false by kernel_rfl)
        | 1, ht => obtain rfl : t = 48 := by simpa using ht.symm
                   exact (show Tryd.prog.wantsStandIn 48 = false by kernel_rfl)
        | 2, ht => obtain rfl : t = 9 := by simpa using ht.symm
                   exact (show Tryd.prog.wantsStandIn 9 = false by kernel_rfl)
        | j + 3, ht => simp at ht⟩)
    (by kernel_rfl)
#print axioms ptrBack_card
end Go.Proofs.YtnnmpiagmpbebaaDoor
