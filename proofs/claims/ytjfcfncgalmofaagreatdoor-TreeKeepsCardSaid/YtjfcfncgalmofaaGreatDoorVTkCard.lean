/- Apply keeps what the document says of a tree's nodes. -/
import Derived.Test.YtjfcfncgalmofaaGreatDoorK1
set_option linter.unusedVariables false
set_option linter.unusedSimpArgs false
set_option linter.unusedSectionVars false
set_option maxRecDepth 100000
namespace Go.Proofs.YtjfcfncgalmofaaGreatDoor
open Go
theorem treeKeeps_card : Rows.TreeKeepsCardSaid :=
  Claim7.holds_tied_plain_at .later [] [.data, .data, .data, .data, .handle, .sentinel, .sentinel, .pinned] true (true, "6ef720008ec65cb6852fc341acf92d8a3b472233a6f3e57152b4620cbbce960c") true
    treeKeeps_holds (fun _ h => by cases h) (by kernel_rfl) (fun _ h => by cases h) treeKeeps_row_tie rfl ⟨rfl, rfl⟩ (by kernel_rfl) rfl
    (fun f fn hf hfn => by
      obtain rfl : f = 4 := Option.some.inj ((show Tryz.prog.funcNamed "doublet/doubletlaw16.TreeKeeps" = some 4 by kernel_rfl).symm.trans hf) |>.symm
      obtain rfl : fn = Tryz.f4 := (Option.some.inj (Tryz.func4.symm.trans hfn)).symm
      exact ⟨by kernel_rfl, fun j t ht => by
        rw [Tryz.params4] at ht
        match j, ht with
        | 0, ht => obtain rfl : t = 9 := by simpa using ht.symm
                   exact (show Tryz.prog.wantsStandIn 9 = false by kernel_rfl)
        | 1, ht => obtain rfl : t = 9 := by simpa using ht.symm
                   exact (show Tryz.prog.wantsStandIn 9 = false by kernel_rfl)
        | j + 2, ht => simp at ht⟩)
    (by kernel_rfl)
#print axioms treeKeeps_card
end Go.Proofs.YtjfcfncgalmofaaGreatDoor
