import Derived.Shelf.Unicode.ValidAny
import Derived.Test.YtehjmhgedbfddaaDoorProg
import Derived.Test.YtehjmhgedbfddaaDoorLg23
set_option linter.unusedVariables false
set_option linter.unusedSimpArgs false
set_option linter.unusedSectionVars false
namespace Go.Proofs
open Go.Shelf
def Tryd.lays196_ren : Go.Shelf.Ren := ⟨fun | 196 => 30 | 259 => 49 | n => n, fun | 9 => 9 | 4 => 4 | 3 => 3 | 5 => 5 | 12 => 12 | 119 => 86 | 0 => 0 | 46 => 84 | 139 => 89 | 138 => 88 | 53 => 98 | n => n, fun | 3 => 0 | 4 => 1 | n => n⟩
theorem Tryd.lays196 : Go.Proofs.Lays.n196 Tryd.prog Tryd.lays196_ren := {
  mixed := by kernel_rfl,
  f196 := Tryd.func30.trans (congrArg some (by kernel_rfl)),
  f259 := Tryd.func49.trans (congrArg some (by kernel_rfl)),
  t0 := Tryd.underlying0,
  a0 := Tryd.isAgg0,
  z0 := Tryd.sizeOf0,
  v0 := Tryd.zeroValue0,
  t3 := Tryd.underlying3,
  a3 := Tryd.isAgg3,
  z3 := Tryd.sizeOf3,
  v3 := Tryd.zeroValue3,
  t4 := Tryd.underlying4,
  a4 := Tryd.isAgg4,
  z4 := Tryd.sizeOf4,
  v4 := Tryd.zeroValue4,
  t5 := Tryd.underlying5,
  a5 := Tryd.isAgg5,
  z5 := Tryd.sizeOf5,
  v5 := Tryd.zeroValue5,
  t9 := Tryd.underlying9,
  a9 := Tryd.isAgg9,
  z9 := Tryd.sizeOf9,
  v9 := Tryd.zeroValue9,
  t12 := Tryd.underlying12,
  a12 := Tryd.isAgg12,
  z12 := Tryd.sizeOf12,
  v12 := Tryd.zeroValue12,
  t46 := Tryd.underlying84,
  a46 := Tryd.isAgg84,
  z46 := Tryd.sizeOf84,
  v46 := Tryd.zeroValue84,
  t53 := Tryd.underlying98,
  a53 := Tryd.isAgg98,
  z53 := Tryd.sizeOf98,
  v53 := Tryd.zeroValue98,
  t119 := Tryd.underlying86,
  a119 := Tryd.isAgg86,
  z119 := Tryd.sizeOf86,
  t138 := Tryd.underlying88,
  a138 := Tryd.isAgg88,
  z138 := Tryd.sizeOf88,
  v138 := Tryd.zeroValue88,
  t139 := Tryd.underlying89,
  a139 := Tryd.isAgg89,
  z139 := Tryd.sizeOf89,
  v139 := Tryd.zeroValue89,
  g3 := by kernel_rfl,
  g4 := by kernel_rfl }

end Go.Proofs
namespace Lg
open Go Go.Proofs Go.RowKit
/-- The two tables of unicode/utf8 lie there. -/
class U8 [GLay] : Prop where
  tabs : ∀ w : World, Laid w → Go.Lib.Utf8Tabs 0 1 w
variable [GLay] [U8]
theorem validString_c (s : ByteArray) (σ : List AO) (hs : s.size ≤ 9223372036854775807) : ACalls Tryd.prog 30 [.str s] σ (Ret (.bool (Go.Lib.validD s.data.toList)) σ) :=
  ACalls_below fun st cargs g hp => by
    rw [hp.str1]
    exact ⟨_, fun _ => .bool _, Any.utf8_ValidString Tryd.lays196 s st.w hs (U8.tabs _ g.laid)⟩
end Lg
