/- No two nodes of a compiled schema have one Path; kids' numbers are above, each but the first once; at each Path stands what the node is of. -/
import Derived.Test.YtpcjccmmeaaeaaaGreatDoorF1
set_option linter.unusedVariables false
set_option linter.unusedSimpArgs false
set_option linter.unusedSectionVars false
set_option maxRecDepth 100000
namespace Go.Proofs.YtpcjccmmeaaeaaaGreatDoor
open Go
theorem schemaPaths_card : Rows.SchemaPathsCardSaid :=
  Claim7.holds_tied_plain_at .later [] [.data, .data, .data, .data, .handle, .pinned] true (true, "a79fc1138a3f3e1db2830359bb2d6fe0465f2aeabed8d9d7cb346b43824f6f3c") true
    schemaPaths_holds (fun _ h => by cases h) (by kernel_rfl) (fun _ h => by cases h) schemaPaths_row_tie rfl ⟨rfl, rfl⟩ (by kernel_rfl) rfl
    (fun f fn hf hfn => by
      obtain rfl : f = 4 := Option.some.inj ((show Tryz.prog.funcNamed "doublet/doubletlaw11.SchemaPaths" = some 4 by kernel_rfl).symm.trans hf) |>.symm
      obtain rfl : fn = Tryz.f4 := (Option.some.inj (Tryz.func4.symm.trans hfn)).symm
      exact ⟨by kernel_rfl, fun j t ht => by
        rw [Tryz.params4] at ht
        match j, ht with
        | 0, ht => obtain rfl : t = 9 := by simpa using ht.symm
                   exact (show Tryz.prog.wantsStandIn 9 = false by kernel_rfl)
        | j + 1, ht => simp at ht⟩)
    (by kernel_rfl)
#print axioms schemaPaths_card
end Go.Proofs.YtpcjccmmeaaeaaaGreatDoor
