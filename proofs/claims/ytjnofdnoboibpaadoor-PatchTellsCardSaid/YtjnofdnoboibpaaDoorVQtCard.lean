/- For every text the law PatchTells answers true, and it reads afterwards as before; the card ties the tables. -/
import Derived.Test.YtjnofdnoboibpaaDoorP10
import Derived.Test.YtjnofdnoboibpaaDoorTie
import Derived.Test.YtjnofdnoboibpaaDoorCards
import Derived.SevenTiedAt
set_option linter.unusedVariables false
set_option linter.unusedSimpArgs false
set_option linter.unusedSectionVars false
set_option maxRecDepth 100000
namespace Go.Proofs.YtjnofdnoboibpaaDoor
open Go
/-- THE TIED CARD of doubletlaw08.PatchTells. -/
theorem patchTells_card : Rows.PatchTellsCardSaid :=
  Claim7.holds_tied_plain_at .later [] [.data, .pinned] true (true, "308725dd00c0708b081e2b0abf40c43534c2371900aadc8584728b915ec35a9c") true
    patchTells_holds (fun _ h => by cases h) (by kernel_rfl) (fun _ h => by cases h) patchTells_row_tie rfl ⟨rfl, rfl⟩ (by kernel_rfl) rfl
    (fun f fn hf hfn => by
      obtain rfl : f = 5 := Option.some.inj ((show Tryd.prog.funcNamed "doublet/doubletlaw08.PatchTells" = some 5 by kernel_rfl).symm.trans hf) |>.symm
      obtain rfl : fn = Tryd.f5 := (Option.some.inj (Tryd.func5.symm.trans hfn)).symm
      exact ⟨by kernel_rfl, fun j t ht => by
        rw [Tryd.params5] at ht
        match j, ht with
        | 0, ht => obtain rfl : t = 9 := by simpa using ht.symm
                   exact (show Tryd.prog.wantsStandIn 9 = false by kernel_rfl)
        | j + 1, ht => simp at ht⟩)
    (by kernel_rfl)
#print axioms patchTells_card
end Go.Proofs.YtjnofdnoboibpaaDoor
