/- The tree's Apply, and what the reference says of it: the same answer and the same tree. -/
import Derived.Test.YtjfcfncgalmofaaGreatDoorT10
import Derived.Test.YtjfcfncgalmofaaGreatDoorTie
import Derived.Test.YtjfcfncgalmofaaGreatDoorCards
import Derived.SevenTiedAt
set_option linter.unusedVariables false
set_option linter.unusedSimpArgs false
set_option linter.unusedSectionVars false
set_option maxRecDepth 100000
namespace Go.Proofs.YtjfcfncgalmofaaGreatDoor
open Go
theorem treeApplies_card : Rows.TreeAppliesCardSaid :=
  Claim7.holds_tied_plain_at .later [] [.data, .data, .data, .data, .handle, .sentinel, .sentinel, .pinned] true (true, "6ef720008ec65cb6852fc341acf92d8a3b472233a6f3e57152b4620cbbce960c") true
    U5 (fun _ h => by cases h) (by kernel_rfl) (fun _ h => by cases h) treeApplies_row_tie rfl ⟨rfl, rfl⟩ (by kernel_rfl) rfl
    (fun f fn hf hfn => by
      obtain rfl : f = 3 := Option.some.inj ((show Tryz.prog.funcNamed "doublet/doubletlaw16.TreeApplies" = some 3 by kernel_rfl).symm.trans hf) |>.symm
      obtain rfl : fn = Tryz.f3 := (Option.some.inj (Tryz.func3.symm.trans hfn)).symm
      exact ⟨by kernel_rfl, fun j t ht => by
        rw [Tryz.params3] at ht
        match j, ht with
        | 0, ht => obtain rfl : t = 9 := by simpa using ht.symm
                   exact (show Tryz.prog.wantsStandIn 9 = false by kernel_rfl)
        | 1, ht => obtain rfl : t = 9 := by simpa using ht.symm
                   exact (show Tryz.prog.wantsStandIn 9 = false by kernel_rfl)
        | 2, ht => obtain rfl : t = 9 := by simpa using ht.symm
                   exact (show Tryz.prog.wantsStandIn 9 = false by kernel_rfl)
        | j + 3, ht => simp at ht⟩)
    (by kernel_rfl)
#print axioms treeApplies_card
end Go.Proofs.YtjfcfncgalmofaaGreatDoor
