/- When the program's refs.Link tells no error: in place no node of a schema is come to twice on one way, each reference has one kid, and all else stays; when it tells one it gives no nodes. -/
import Derived.Test.YtdacoelmmaiffaaDoorE1
set_option linter.unusedVariables false
set_option linter.unusedSimpArgs false
set_option linter.unusedSectionVars false
set_option maxRecDepth 100000
namespace Go.Proofs.YtdacoelmmaiffaaDoor
open Go
theorem refsEnd_card : Rows.RefsEndCardSaid :=
  Claim7.holds_tied_plain_at .later [] [.data, .pinned] true (true, "aa9cfb6ac97fd12b15617633e09d58d8b61e69a60e6c69074fb415d77d1fd9e4") true
    refsEnd_holds (fun _ h => by cases h) (by kernel_rfl) (fun _ h => by cases h) refsEnd_row_tie rfl ⟨rfl, rfl⟩ (by kernel_rfl) rfl
    (fun f fn hf hfn => by
      obtain rfl : f = 4 := Option.some.inj ((show Tryd.prog.funcNamed "doublet/doubletlaw12.RefsEnd" = some 4 by kernel_rfl).symm.trans hf) |>.symm
      obtain rfl : fn = Tryd.f4 := (Option.some.inj (Tryd.func4.symm.trans hfn)).symm
      exact ⟨by kernel_rfl, fun j t ht => by
        rw [Tryd.params4] at ht
        match j, ht with
        | 0, ht => obtain rfl : t = 9 := by simpa using ht.symm
                   exact (show Tryd.prog.wantsStandIn 9 = false by kernel_rfl)
        | j + 1, ht => simp at ht⟩)
    (by kernel_rfl)
#print axioms refsEnd_card
end Go.Proofs.YtdacoelmmaiffaaDoor
