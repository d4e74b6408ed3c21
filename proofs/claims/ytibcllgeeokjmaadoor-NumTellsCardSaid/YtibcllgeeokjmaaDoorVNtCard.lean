/- NumTells: the number of any text, or what is amiss, its canonical text, and whether it is whole; any two numbers side by side; any count as a number -/
import Derived.Test.YtibcllgeeokjmaaDoorP7
import Derived.Test.YtibcllgeeokjmaaDoorTie
import Derived.Test.YtibcllgeeokjmaaDoorCards
import Derived.SevenTiedAt
set_option linter.unusedVariables false
set_option linter.unusedSimpArgs false
set_option linter.unusedSectionVars false
set_option maxRecDepth 100000
namespace Go.Proofs.YtibcllgeeokjmaaDoor
open Go
/-- THE TIED CARD of doubletlaw01.NumTells. -/
theorem numTells_card : Rows.NumTellsCardSaid :=
  Claim7.holds_tied_plain_at .later [] [.data, .data, .data, .data, .sentinel, .sentinel, .pinned] true (true, "9ad1d2d5d9733131a00fd3626993cc7b07edb253e4d4f6084fccb826e98c431f") true
    numTells_holds (fun _ h => by cases h) (by kernel_rfl) (fun _ h => by cases h) numTells_row_tie rfl ⟨rfl, rfl⟩ (by kernel_rfl) rfl
    (fun f fn hf hfn => by
      obtain rfl : f = 3 := Option.some.inj ((show Tryd.prog.funcNamed "doublet/doubletlaw01.NumTells" = some 3 by kernel_rfl).symm.trans hf) |>.symm
      obtain rfl : fn = Tryd.f3 := (Option.some.inj (Tryd.func3.symm.trans hfn)).symm
      exact ⟨by kernel_rfl, fun j t ht => by
        rw [Tryd.params3] at ht
        match j, ht with
        | 0, ht => obtain rfl : t = 9 := by simpa using ht.symm
                   exact (show Tryd.prog.wantsStandIn 9 = false by kernel_rfl)
        | 1, ht => obtain rfl : t = 9 := by simpa using ht.symm
                   exact (show Tryd.prog.wantsStandIn 9 = false by kernel_rfl)
        | 2, ht => obtain rfl : t = 3 := by simpa using ht.symm
                   exact (show Tryd.prog.wantsStandIn 3 = false by kernel_rfl)
        | j + 3, ht => simp at ht⟩)
    (by kernel_rfl)
#print axioms numTells_card
end Go.Proofs.YtibcllgeeokjmaaDoor
