/-
  NARROWER THAN 'FOR EVERY INPUT', by the rows' own cells (each row's printed sentence says how): ValueMays: laid · ValueTells: laid · ValueSame: laid · StrTells: laid · StrBack: laid.
  DERIVED. THE GIVEN ROWS OF THIS SEAT. 5 by the template 'for every input the law returns true; each argument reads behind the call as it read before'; 0 by the template 'total and deterministic' (their statements: YtiihpckdafldkaaDoorTotals.lean).
  GIVEN WITH THE SEED: the statements are not yours to turn. If you find one false, say at which input.
  Laid BY PROGRAM, IN A SANDBOX (cutbox-rows.mjs): the forced cells as the released guide's own fill.sh prints them over the translation 64bbef3f1cc4808d… (all of the seat's roots in one cut). By AI agents, Wed Nov 11 2026. No macro, syntax, notation, axiom, sorry.
-/
import Derived.Test.YtiihpckdafldkaaDoorChecked
import GoSem.PinnedTables
import GoSem.Claim
import GoSem.ClaimJoined
import GoSem.ClaimMapViews
import Derived.JoinedTies
import Derived.KernelRfl
namespace Go.Proofs.YtiihpckdafldkaaDoor
/- THE CELL 'sum', in the pinned program and in every row, IS THE sha256 OF THE DUMP (.gsa) THAT YtiihpckdafldkaaDoorProg.lean LOADS. Nothing in Lean hashes anything: it is a label: what it is worth is what the hold of that sum in a sandbox is worth. -/
noncomputable def Tryd.pinned : Pinned := { name := "ytiihpckdafldkaadoor", sum := "64bbef3f1cc4808dd5c24a8b23f6604a8846f34df5137b024761d306cd8fe60c", checked := Tryd.checked }
namespace Rows
def none {H : Type} : Left H := { results := [], args := [] }

/- WHAT THE LISTED PACKAGE-LEVEL VARIABLES READ AS WHEN THE CALL BEGINS. Each datum BY PROGRAM (the guide's laid-datum.mjs) off the statement by which the dump's own 'gosem.cut.vars' lays the variable. In a bare row this is a premise. The card (YtiihpckdafldkaaDoorCards.lean) ties it to the program's text. -/
def laid_unicode_utf8_acceptRanges {H : Type} : DataW H := .agg [.agg [.lit (.int .u8 128), .lit (.int .u8 191)], .agg [.lit (.int .u8 160), .lit (.int .u8 191)], .agg [.lit (.int .u8 128), .lit (.int .u8 159)], .agg [.lit (.int .u8 144), .lit (.int .u8 191)], .agg [.lit (.int .u8 128), .lit (.int .u8 143)], .agg [.lit (.int .u8 0), .lit (.int .u8 0)], .agg [.lit (.int .u8 0), .lit (.int .u8 0)], .agg [.lit (.int .u8 0), .lit (.int .u8 0)], .agg [.lit (.int .u8 0), .lit (.int .u8 0)], .agg [.lit (.int .u8 0), .lit (.int .u8 0)], .agg [.lit (.int .u8 0), .lit (.int .u8 0)], .agg [.lit (.int .u8 0), .lit (.int .u8 0)], .agg [.lit (.int .u8 0), .lit (.int .u8 0)], .agg [.lit (.int .u8 0), .lit (.int .u8 0)], .agg [.lit (.int .u8 0), .lit (.int .u8 0)], .agg [.lit (.int .u8 0), .lit (.int .u8 0)]]
/-- One of Go's own tables, pinned by name: the form's constant. -/
def laid_unicode_utf8_first : DataW Unit := Go.Pinned.utf8First

/-- 'doubletlaw03.ValueMays': WHATEVER THE INPUT: true; the input reads as it did. -/
def valueMaysSpec : ChangeSpec := { name := "valueMays", fn := fun _ => fun
  | [d1, d2, d3, d4, d5, d6, d7] => { results := [.lit (.bool true)], args := [d1, d2, d3, d4, d5, d6, d7] }
  | _ => none }
def valueMaysRow : OpenClaim := { program := "ytiihpckdafldkaadoor", sum := "64bbef3f1cc4808dd5c24a8b23f6604a8846f34df5137b024761d306cd8fe60c", func := "doublet/doubletlaw03.ValueMays", spec := "valueMays", unfollowed := true, recurses := true, named := ["unicode/utf8.first", "unicode/utf8.acceptRanges"], apart := false, laid := [("unicode/utf8.acceptRanges", laid_unicode_utf8_acceptRanges), ("unicode/utf8.first", laid_unicode_utf8_first)] }
def ValueMaysSaid : Prop := valueMaysRow.holds Tryd.pinned (OpenSpec.ofChange valueMaysSpec)

/-- ITS FALSE NEIGHBOUR: 'it returns false'. Refute it at one input. -/
def valueMaysWrong : ChangeSpec := { name := "valueMays", fn := fun _ => fun
  | [d1, d2, d3, d4, d5, d6, d7] => { results := [.lit (.bool false)], args := [d1, d2, d3, d4, d5, d6, d7] }
  | _ => none }
def ValueMaysWrongFalsely : Prop := valueMaysRow.holds Tryd.pinned (OpenSpec.ofChange valueMaysWrong)

/-- 'doubletlaw03.ValueTells': WHATEVER THE INPUT: true; the input reads as it did. -/
def valueTellsSpec : ChangeSpec := { name := "valueTells", fn := fun _ => fun
  | [d1, d2, d3] => { results := [.lit (.bool true)], args := [d1, d2, d3] }
  | _ => none }
def valueTellsRow : OpenClaim := { program := "ytiihpckdafldkaadoor", sum := "64bbef3f1cc4808dd5c24a8b23f6604a8846f34df5137b024761d306cd8fe60c", func := "doublet/doubletlaw03.ValueTells", spec := "valueTells", unfollowed := true, recurses := true, named := ["unicode/utf8.first", "unicode/utf8.acceptRanges"], apart := false, laid := [("unicode/utf8.acceptRanges", laid_unicode_utf8_acceptRanges), ("unicode/utf8.first", laid_unicode_utf8_first)] }
def ValueTellsSaid : Prop := valueTellsRow.holds Tryd.pinned (OpenSpec.ofChange valueTellsSpec)

/-- ITS FALSE NEIGHBOUR: 'it returns false'. Refute it at one input. -/
def valueTellsWrong : ChangeSpec := { name := "valueTells", fn := fun _ => fun
  | [d1, d2, d3] => { results := [.lit (.bool false)], args := [d1, d2, d3] }
  | _ => none }
def ValueTellsWrongFalsely : Prop := valueTellsRow.holds Tryd.pinned (OpenSpec.ofChange valueTellsWrong)

/-- 'doubletlaw03.ValueSame': WHATEVER THE INPUT: true; the input reads as it did. -/
def valueSameSpec : ChangeSpec := { name := "valueSame", fn := fun _ => fun
  | [d1, d2, d3] => { results := [.lit (.bool true)], args := [d1, d2, d3] }
  | _ => none }
def valueSameRow : OpenClaim := { program := "ytiihpckdafldkaadoor", sum := "64bbef3f1cc4808dd5c24a8b23f6604a8846f34df5137b024761d306cd8fe60c", func := "doublet/doubletlaw03.ValueSame", spec := "valueSame", unfollowed := true, recurses := true, named := ["unicode/utf8.first", "unicode/utf8.acceptRanges"], apart := false, laid := [("unicode/utf8.acceptRanges", laid_unicode_utf8_acceptRanges), ("unicode/utf8.first", laid_unicode_utf8_first)] }
def ValueSameSaid : Prop := valueSameRow.holds Tryd.pinned (OpenSpec.ofChange valueSameSpec)

/-- ITS FALSE NEIGHBOUR: 'it returns false'. Refute it at one input. -/
def valueSameWrong : ChangeSpec := { name := "valueSame", fn := fun _ => fun
  | [d1, d2, d3] => { results := [.lit (.bool false)], args := [d1, d2, d3] }
  | _ => none }
def ValueSameWrongFalsely : Prop := valueSameRow.holds Tryd.pinned (OpenSpec.ofChange valueSameWrong)

/-- 'doubletlaw02.StrTells': WHATEVER THE INPUT: true; the input reads as it did. -/
def strTellsSpec : ChangeSpec := { name := "strTells", fn := fun _ => fun
  | [d1, d2, d3] => { results := [.lit (.bool true)], args := [d1, d2, d3] }
  | _ => none }
def strTellsRow : OpenClaim := { program := "ytiihpckdafldkaadoor", sum := "64bbef3f1cc4808dd5c24a8b23f6604a8846f34df5137b024761d306cd8fe60c", func := "doublet/doubletlaw02.StrTells", spec := "strTells", inPlace := ["internal/abi.NoEscape", "internal/bytealg.IndexByteString"], named := ["unicode/utf8.first", "unicode/utf8.acceptRanges"], apart := false, laid := [("unicode/utf8.acceptRanges", laid_unicode_utf8_acceptRanges), ("unicode/utf8.first", laid_unicode_utf8_first)] }
def StrTellsSaid : Prop := strTellsRow.holds Tryd.pinned (OpenSpec.ofChange strTellsSpec)

/-- ITS FALSE NEIGHBOUR: 'it returns false'. Refute it at one input. -/
def strTellsWrong : ChangeSpec := { name := "strTells", fn := fun _ => fun
  | [d1, d2, d3] => { results := [.lit (.bool false)], args := [d1, d2, d3] }
  | _ => none }
def StrTellsWrongFalsely : Prop := strTellsRow.holds Tryd.pinned (OpenSpec.ofChange strTellsWrong)

/-- 'doubletlaw02.StrBack': WHATEVER THE INPUT: true; the input reads as it did. -/
def strBackSpec : ChangeSpec := { name := "strBack", fn := fun _ => fun
  | [d1, d2, d3, d4, d5] => { results := [.lit (.bool true)], args := [d1, d2, d3, d4, d5] }
  | _ => none }
def strBackRow : OpenClaim := { program := "ytiihpckdafldkaadoor", sum := "64bbef3f1cc4808dd5c24a8b23f6604a8846f34df5137b024761d306cd8fe60c", func := "doublet/doubletlaw02.StrBack", spec := "strBack", inPlace := ["internal/abi.NoEscape", "internal/bytealg.IndexByteString"], named := ["unicode/utf8.first", "unicode/utf8.acceptRanges"], apart := false, laid := [("unicode/utf8.acceptRanges", laid_unicode_utf8_acceptRanges), ("unicode/utf8.first", laid_unicode_utf8_first)] }
def StrBackSaid : Prop := strBackRow.holds Tryd.pinned (OpenSpec.ofChange strBackSpec)

/-- ITS FALSE NEIGHBOUR: 'it returns false'. Refute it at one input. -/
def strBackWrong : ChangeSpec := { name := "strBack", fn := fun _ => fun
  | [d1, d2, d3, d4, d5] => { results := [.lit (.bool false)], args := [d1, d2, d3, d4, d5] }
  | _ => none }
def StrBackWrongFalsely : Prop := strBackRow.holds Tryd.pinned (OpenSpec.ofChange strBackWrong)

/- THE SECOND FORM. 'bulk': how many values and letters a reading holds, each counted each time it is reached (what is shared counts as often as it is met; a slice's spare places count too). A statement '..UptoSaid' is the law's where the arguments, and the package variables that the reading takes, are together of bulk at most 1048576: NARROWER than '..Said'. Prove '..Said' where nothing that the law and all that it calls make is longer than what came in: it says more and counts as full. Else prove '..UptoSaid'. A law counts once. -/
mutual
def uptoBulk {H : Type} : DataW H → Nat
  | .lit (.string bytes) => bytes.length + 1
  | .lit _ => 1
  | .nil => 1
  | .ptr d => uptoBulk d + 1
  | .slice elems spare => uptoBulkAll elems + uptoBulkAll spare + 1
  | .agg parts => uptoBulkAll parts + 1
  | .iface _ d => uptoBulk d + 1
  | .map entries => uptoBulkEntries entries + 1
  | .held _ => 1
def uptoBulkAll {H : Type} : List (DataW H) → Nat
  | [] => 0
  | d :: r => uptoBulk d + uptoBulkAll r
def uptoBulkEntries {H : Type} : List (Lit × DataW H) → Nat
  | [] => 0
  | x :: r => uptoBulkEntry x + uptoBulkEntries r
def uptoBulkEntry {H : Type} : Lit × DataW H → Nat
  | (.string bytes, d) => bytes.length + uptoBulk d + 1
  | (_, d) => uptoBulk d + 1
 end
def uptoSmall : (H : Type) → List (DataW H) → Bool := fun _ ds => decide (uptoBulkAll ds ≤ 1048576)
def OpenSpec.upto (s : _root_.Go.ChangeSpec) : _root_.Go.OpenSpec := { _root_.Go.OpenSpec.ofChange s with cond := some uptoSmall }

/-- 'doubletlaw03.ValueMays', WHERE WHAT IT READS IS OF BULK AT MOST 1048576: true; the input reads as it did. -/
def valueMaysUptoRow : OpenClaim := { program := "ytiihpckdafldkaadoor", sum := "64bbef3f1cc4808dd5c24a8b23f6604a8846f34df5137b024761d306cd8fe60c", func := "doublet/doubletlaw03.ValueMays", spec := "valueMays", unfollowed := true, recurses := true, named := ["unicode/utf8.first", "unicode/utf8.acceptRanges"], apart := false, laid := [("unicode/utf8.acceptRanges", laid_unicode_utf8_acceptRanges), ("unicode/utf8.first", laid_unicode_utf8_first)], narrowed := true }
def ValueMaysUptoSaid : Prop := valueMaysUptoRow.holds Tryd.pinned (OpenSpec.upto valueMaysSpec)

/-- 'doubletlaw03.ValueTells', WHERE WHAT IT READS IS OF BULK AT MOST 1048576: true; the input reads as it did. -/
def valueTellsUptoRow : OpenClaim := { program := "ytiihpckdafldkaadoor", sum := "64bbef3f1cc4808dd5c24a8b23f6604a8846f34df5137b024761d306cd8fe60c", func := "doublet/doubletlaw03.ValueTells", spec := "valueTells", unfollowed := true, recurses := true, named := ["unicode/utf8.first", "unicode/utf8.acceptRanges"], apart := false, laid := [("unicode/utf8.acceptRanges", laid_unicode_utf8_acceptRanges), ("unicode/utf8.first", laid_unicode_utf8_first)], narrowed := true }
def ValueTellsUptoSaid : Prop := valueTellsUptoRow.holds Tryd.pinned (OpenSpec.upto valueTellsSpec)

/-- 'doubletlaw03.ValueSame', WHERE WHAT IT READS IS OF BULK AT MOST 1048576: true; the input reads as it did. -/
def valueSameUptoRow : OpenClaim := { program := "ytiihpckdafldkaadoor", sum := "64bbef3f1cc4808dd5c24a8b23f6604a8846f34df5137b024761d306cd8fe60c", func := "doublet/doubletlaw03.ValueSame", spec := "valueSame", unfollowed := true, recurses := true, named := ["unicode/utf8.first", "unicode/utf8.acceptRanges"], apart := false, laid := [("unicode/utf8.acceptRanges", laid_unicode_utf8_acceptRanges), ("unicode/utf8.first", laid_unicode_utf8_first)], narrowed := true }
def ValueSameUptoSaid : Prop := valueSameUptoRow.holds Tryd.pinned (OpenSpec.upto valueSameSpec)

/-- 'doubletlaw02.StrTells', WHERE WHAT IT READS IS OF BULK AT MOST 1048576: true; the input reads as it did. -/
def strTellsUptoRow : OpenClaim := { program := "ytiihpckdafldkaadoor", sum := "64bbef3f1cc4808dd5c24a8b23f6604a8846f34df5137b024761d306cd8fe60c", func := "doublet/doubletlaw02.StrTells", spec := "strTells", inPlace := ["internal/abi.NoEscape", "internal/bytealg.IndexByteString"], named := ["unicode/utf8.first", "unicode/utf8.acceptRanges"], apart := false, laid := [("unicode/utf8.acceptRanges", laid_unicode_utf8_acceptRanges), ("unicode/utf8.first", laid_unicode_utf8_first)], narrowed := true }
def StrTellsUptoSaid : Prop := strTellsUptoRow.holds Tryd.pinned (OpenSpec.upto strTellsSpec)

/-- 'doubletlaw02.StrBack', WHERE WHAT IT READS IS OF BULK AT MOST 1048576: true; the input reads as it did. -/
def strBackUptoRow : OpenClaim := { program := "ytiihpckdafldkaadoor", sum := "64bbef3f1cc4808dd5c24a8b23f6604a8846f34df5137b024761d306cd8fe60c", func := "doublet/doubletlaw02.StrBack", spec := "strBack", inPlace := ["internal/abi.NoEscape", "internal/bytealg.IndexByteString"], named := ["unicode/utf8.first", "unicode/utf8.acceptRanges"], apart := false, laid := [("unicode/utf8.acceptRanges", laid_unicode_utf8_acceptRanges), ("unicode/utf8.first", laid_unicode_utf8_first)], narrowed := true }
def StrBackUptoSaid : Prop := strBackUptoRow.holds Tryd.pinned (OpenSpec.upto strBackSpec)

end Rows
end Go.Proofs.YtiihpckdafldkaaDoor
