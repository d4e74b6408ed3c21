/- For all texts, lists of names and counts the law PtrTells answers true, and they read afterwards as before; the card ties the tables. -/
import Derived.Test.YtjnofdnoboibpaaGreatDoorP10
import Derived.Test.YtjnofdnoboibpaaGreatDoorTie
import Derived.Test.YtjnofdnoboibpaaGreatDoorCards
import Derived.SevenTiedAt
set_option linter.unusedVariables false
set_option linter.unusedSimpArgs false
set_option linter.unusedSectionVars false
set_option maxRecDepth 100000
namespace Go.Proofs.YtjnofdnoboibpaaGreatDoor
open Go
/-- THE TIED CARD of doubletlaw06.PtrTells. -/
theorem ptrTells_card : Rows.PtrTellsCardSaid :=
  Claim7.holds_tied_plain_at .later [] [.data, .data, .data, .data, .sentinel, .sentinel, .pinned] true (true, "bad619024456f3282a8a9cf9a90521962494e2737969c55ea19abcefbff35cb0") true
    ptrTells_holds (fun _ h => by cases h) (by kernel_rfl) (fun _ h => by cases h) ptrTells_row_tie rfl ⟨rfl, rfl⟩ (by kernel_rfl) rfl
    (fun f fn hf hfn => by
      obtain rfl : f = 5 := Option.some.inj ((show Tryz.prog.funcNamed "doublet/doubletlaw06.PtrTells" = some 5 by kernel_rfl).symm.trans hf) |>.symm
      obtain rfl : fn = Tryz.f5 := (Option.some.inj (Tryz.func5.symm.trans hfn)).symm
      exact ⟨by kernel_rfl, fun j t ht => by
        rw [Tryz.params5] at ht
        match j, ht with
        | 0, ht => obtain rfl : t = 9 := by simpa using ht.symm
                   exact (show Tryz.prog.wantsStandIn 9 = false by kernel_rfl)
        | 1, ht => obtain rfl : t = 31 := by simpa using ht.symm
                   exact (show Tryz.prog.wantsStandIn 31 = false by kernel_rfl)
        | 2, ht => obtain rfl : t = 9 := by simpa using ht.symm
                   exact (show Tryz.prog.wantsStandIn 9 = false by kernel_rfl)
        | 3, ht => obtain rfl : t = 3 := by simpa using ht.symm
                   exact (show Tryz.prog.wantsStandIn 3 = false by kernel_rfl)
        | 4, ht => obtain rfl : t = 4 := by simpa using ht.symm
                   exact (show Tryz.prog.wantsStandIn 4 = false by kernel_rfl)
        | 5, ht => obtain rfl : t = 9 := by simpa using ht.symm
                   exact (show Tryz.prog.wantsStandIn 9 = false by kernel_rfl)
        | j + 6, ht => simp at ht⟩)
    (by kernel_rfl)
#print axioms ptrTells_card
end Go.Proofs.YtjnofdnoboibpaaGreatDoor
