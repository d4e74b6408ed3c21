import Derived.Test.YtehjmhgedbfddaaDoorVm
import Derived.Test.YtehjmhgedbfddaaDoorTie
import Derived.Test.YtehjmhgedbfddaaDoorCards
import Derived.SevenTiedAt
set_option linter.unusedVariables false
set_option linter.unusedSimpArgs false
set_option linter.unusedSectionVars false
set_option maxRecDepth 100000
namespace Go.Proofs.YtehjmhgedbfddaaDoor
open Go
theorem wants3 : Tryd.prog.wantsStandIn 3 = false := by kernel_rfl
theorem wants4 : Tryd.prog.wantsStandIn 4 = false := by kernel_rfl
theorem wants9 : Tryd.prog.wantsStandIn 9 = false := by kernel_rfl
theorem wants23 : Tryd.prog.wantsStandIn 23 = false := by kernel_rfl
/-- THE TIED CARD of ValueMays. -/
theorem valueMays_card : Rows.ValueMaysCardSaid :=
  Claim7.holds_tied_plain_at .later [] [.data, .pinned] true (true, "d68e181e26ea8a9958c638af1644b05504f510026403f3b5acb9fbe3c2ab31db") true
    valueMays_holds (fun _ h => by cases h) (by kernel_rfl) (fun _ h => by cases h) valueMays_row_tie rfl ⟨rfl, rfl⟩ (by kernel_rfl) rfl
    (fun f fn hf hfn => by
      obtain rfl : f = 3 := Option.some.inj ((show Tryd.prog.funcNamed "doublet/doubletlaw03.ValueMays" = some 3 by kernel_rfl).symm.trans hf) |>.symm
      obtain rfl : fn = Tryd.f3 := (Option.some.inj (Tryd.func3.symm.trans hfn)).symm
      exact ⟨by kernel_rfl, fun j t ht => by
        rw [Tryd.params3] at ht
        match j, ht with
        | 0, ht => obtain rfl : t = 3 := by simpa using ht.symm
                   exact wants3
        | 1, ht => obtain rfl : t = 4 := by simpa using ht.symm
                   exact wants4
        | 2, ht => obtain rfl : t = 23 := by simpa using ht.symm
                   exact wants23
        | 3, ht => obtain rfl : t = 9 := by simpa using ht.symm
                   exact wants9
        | 4, ht => obtain rfl : t = 9 := by simpa using ht.symm
                   exact wants9
        | 5, ht => obtain rfl : t = 9 := by simpa using ht.symm
                   exact wants9
        | 6, ht => obtain rfl : t = 4 := by simpa using ht.symm
                   exact wants4
        | j + 7, ht => simp at ht⟩)
    (by kernel_rfl)
#print axioms valueMays_card
end Go.Proofs.YtehjmhgedbfddaaDoor
