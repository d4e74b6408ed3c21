/- All schemas in a value that a name may have are Bools and Objects; a name that is no keyword may have none, whatever the value; a list of schemas may be allOf's just if it may be anyOf's and oneOf's. -/
import Derived.Test.YtnnmpiagmpbebaaDoorP9
import Derived.Test.YtnnmpiagmpbebaaDoorTie
import Derived.Test.YtnnmpiagmpbebaaDoorCards
import Derived.SevenTiedAt
set_option linter.unusedVariables false
set_option linter.unusedSimpArgs false
set_option linter.unusedSectionVars false
set_option maxRecDepth 100000
namespace Go.Proofs.YtnnmpiagmpbebaaDoor
open Go
/-- THE TIED CARD of doubletlaw10.ShapeKids. -/
theorem shapeKids_card : Rows.ShapeKidsCardSaid :=
  Claim7.holds_tied_plain_at .later [] [.data, .data, .data] true (true, "05b4677b48d804867bf9bb048068b8d2c9b315696325b272759633bacf4e3d5e") true
    shapeKids_holds (fun _ h => by cases h) (by kernel_rfl) (fun _ h => by cases h) shapeKids_row_tie rfl ⟨rfl, rfl⟩ (by kernel_rfl) rfl
    (fun f fn hf hfn => by
      obtain rfl : f = 6 := Option.some.inj ((show Tryd.prog.funcNamed "doublet/doubletlaw10.ShapeKids" = some 6 by kernel_rfl).symm.trans hf) |>.symm
      obtain rfl : fn = Tryd.f6 := (Option.some.inj (Tryd.func6.symm.trans hfn)).symm
      exact ⟨by kernel_rfl, fun j t ht => by
        rw [Tryd.params6] at ht
        match j, ht with
        | 0, ht => obtain rfl : t = 9 := by simpa using ht.symm
                   exact (show Tryd.prog.wantsStandIn 9 = false by kernel_rfl)
        | 1, ht => obtain rfl : t = 9 := by simpa using ht.symm
                   exact (show Tryd.prog.wantsStandIn 9 = false by kernel_rfl)
        | j + 2, ht => simp at ht⟩)
    (by kernel_rfl)
#print axioms shapeKids_card
end Go.Proofs.YtnnmpiagmpbebaaDoor
