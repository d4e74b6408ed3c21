/- For all texts and every key the law PatchMore answers true, and they read afterwards as before; the card ties the tables. -/
import Derived.Test.YtjnofdnoboibpaaDoorP11
import Derived.Test.YtjnofdnoboibpaaDoorTie
import Derived.Test.YtjnofdnoboibpaaDoorCards
import Derived.SevenTiedAt
set_option linter.unusedVariables false
set_option linter.unusedSimpArgs false
set_option linter.unusedSectionVars false
set_option maxRecDepth 100000
namespace Go.Proofs.YtjnofdnoboibpaaDoor
open Go
/-- THE TIED CARD of doubletlaw08.PatchMore. -/
theorem patchMore_card : Rows.PatchMoreCardSaid :=
  Claim7.holds_tied_plain_at .later [] [.data, .pinned] true (true, "308725dd00c0708b081e2b0abf40c43534c2371900aadc8584728b915ec35a9c") true
    patchMore_holds (fun _ h => by cases h) (by kernel_rfl) (fun _ h => by cases h) patchMore_row_tie rfl ⟨rfl, rfl⟩ (by kernel_rfl) rfl
    (fun f fn hf hfn => by
      obtain rfl : f = 6 := Option.some.inj ((show Tryd.prog.funcNamed "doublet/doubletlaw08.PatchMore" = some 6 by kernel_rfl).symm.trans hf) |>.symm
      obtain rfl : fn = Tryd.f6 := (Option.some.inj (Tryd.func6.symm.trans hfn)).symm
      exact ⟨by kernel_rfl, fun j t ht => by
        rw [Tryd.params6] at ht
        match j, ht with
        | 0, ht => obtain rfl : t = 9 := by simpa using ht.symm
                   exact (show Tryd.prog.wantsStandIn 9 = false by kernel_rfl)
        | 1, ht => obtain rfl : t = 9 := by simpa using ht.symm
                   exact (show Tryd.prog.wantsStandIn 9 = false by kernel_rfl)
        | 2, ht => obtain rfl : t = 9 := by simpa using ht.symm
                   exact (show Tryd.prog.wantsStandIn 9 = false by kernel_rfl)
        | j + 3, ht => simp at ht⟩)
    (by kernel_rfl)
#print axioms patchMore_card
end Go.Proofs.YtjnofdnoboibpaaDoor
