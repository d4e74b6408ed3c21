/- The nodes of any schema with their references known, or what is amiss and where: the program's refs.Link answers as the reference's Link. -/
import Derived.Test.YtdacoelmmaiffaaDoorR9
import Derived.Test.YtdacoelmmaiffaaDoorTie
import Derived.Test.YtdacoelmmaiffaaDoorCards
import Derived.SevenTiedAt
set_option linter.unusedVariables false
set_option linter.unusedSimpArgs false
set_option linter.unusedSectionVars false
set_option maxRecDepth 100000
namespace Go.Proofs.YtdacoelmmaiffaaDoor
open Go
theorem refsTells_card : Rows.RefsTellsCardSaid :=
  Claim7.holds_tied_plain_at .later [] [.data, .pinned] true (true, "aa9cfb6ac97fd12b15617633e09d58d8b61e69a60e6c69074fb415d77d1fd9e4") true
    refsTells_holds (fun _ h => by cases h) (by kernel_rfl) (fun _ h => by cases h) refsTells_row_tie rfl ⟨rfl, rfl⟩ (by kernel_rfl) rfl
    (fun f fn hf hfn => by
      obtain rfl : f = 3 := Option.some.inj ((show Tryd.prog.funcNamed "doublet/doubletlaw12.RefsTells" = some 3 by kernel_rfl).symm.trans hf) |>.symm
      obtain rfl : fn = Tryd.f3 := (Option.some.inj (Tryd.func3.symm.trans hfn)).symm
      exact ⟨by kernel_rfl, fun j t ht => by
        rw [Tryd.params3] at ht
        match j, ht with
        | 0, ht => obtain rfl : t = 9 := by simpa using ht.symm
                   exact (show Tryd.prog.wantsStandIn 9 = false by kernel_rfl)
        | j + 1, ht => simp at ht⟩)
    (by kernel_rfl)
#print axioms refsTells_card
end Go.Proofs.YtdacoelmmaiffaaDoor
