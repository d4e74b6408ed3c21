import Derived.Test.YtehjmhgedbfddaaDoorW6
import Derived.Test.YtehjmhgedbfddaaDoorRows
import Derived.Lib.LaidU8
import Derived.Lib.LaidIn
import Derived.LaidMore
import Derived.ProofKit
import Derived.OpenShut
import Derived.Stop.Joined
import Derived.Deep.Strs
import Derived.Shelf.Unicode.DecodeSlow
set_option linter.unusedVariables false
set_option linter.unusedSimpArgs false
set_option linter.unusedSectionVars false
set_option maxRecDepth 100000
set_option maxHeartbeats 4000000
namespace Go.Proofs.YtehjmhgedbfddaaDoor
open Go Go.ChangeShapes Go.WideShapes Go.ChangeAt Go.RowKit Go.Lib
open Go.ChangeMaps (open_string shut_string)
end Go.Proofs.YtehjmhgedbfddaaDoor
namespace Go.Proofs
def Tryd.lays260_ren : Go.Shelf.Ren := ⟨fun | 260 => 56 | n => n, fun | 9 => 9 | 21 => 21 | 3 => 3 | 4 => 4 | 5 => 5 | 119 => 86 | 0 => 0 | 46 => 84 | 139 => 89 | 138 => 88 | n => n, fun | 3 => 0 | 4 => 1 | n => n⟩
theorem Tryd.lays260 : Go.Proofs.Lays.n260 Tryd.prog Tryd.lays260_ren := {
  mixed := by kernel_rfl,
  f260 := Tryd.func56.trans (congrArg some (by kernel_rfl)),
  t0 := Tryd.underlying0,
  a0 := Tryd.isAgg0,
  z0 := Tryd.sizeOf0,
  v0 := Tryd.zeroValue0,
  t3 := Tryd.underlying3,
  a3 := Tryd.isAgg3,
  z3 := Tryd.sizeOf3,
  v3 := Tryd.zeroValue3,
  t4 := Tryd.underlying4,
  a4 := Tryd.isAgg4,
  z4 := Tryd.sizeOf4,
  v4 := Tryd.zeroValue4,
  t5 := Tryd.underlying5,
  a5 := Tryd.isAgg5,
  z5 := Tryd.sizeOf5,
  v5 := Tryd.zeroValue5,
  t9 := Tryd.underlying9,
  a9 := Tryd.isAgg9,
  z9 := Tryd.sizeOf9,
  v9 := Tryd.zeroValue9,
  t21 := Tryd.underlying21,
  a21 := Tryd.isAgg21,
  z21 := Tryd.sizeOf21,
  v21 := Tryd.zeroValue21,
  t46 := Tryd.underlying84,
  a46 := Tryd.isAgg84,
  z46 := Tryd.sizeOf84,
  v46 := Tryd.zeroValue84,
  t119 := Tryd.underlying86,
  a119 := Tryd.isAgg86,
  z119 := Tryd.sizeOf86,
  t138 := Tryd.underlying88,
  a138 := Tryd.isAgg88,
  z138 := Tryd.sizeOf88,
  v138 := Tryd.zeroValue88,
  t139 := Tryd.underlying89,
  a139 := Tryd.isAgg89,
  z139 := Tryd.sizeOf89,
  v139 := Tryd.zeroValue89,
  g3 := by kernel_rfl,
  g4 := by kernel_rfl }

end Go.Proofs
namespace Go.Proofs.YtehjmhgedbfddaaDoor
open Go Go.ChangeShapes Go.WideShapes Go.ChangeAt Go.RowKit Go.Lib
open Go.ChangeMaps (open_string shut_string)
theorem own : ownKnob Tryd.prog.godebug = none := by kernel_rfl
theorem laidOut : laidOutB Tryd.prog = true := by kernel_rfl
/-- The witness's world: both tables lie there. -/
noncomputable def laidWorld (os : Os) : World :=
  let w0 := World.holding Tryd.prog os ⟨#[], #[], []⟩
  let put (h : Array Obj) (g : Nat) (cs : Array Value) : Array Obj := h.modify g fun
    | .cells _ t frozen => .cells cs t frozen
    | o => o
  let h1 := put w0.heap 0 (Lib.firstTab.map fun z => Value.int .u8 z).toArray
  let h2 := put h1 1 ((List.range 16).flatMap fun i => [Value.int .u8 (Lib.accLo i), Value.int .u8 (Lib.accHi i)]).toArray
  { w0 with heap := h2 }
theorem laid_met (os : Os) (args : Array Value) : laidMet Tryd.prog Rows.valueMaysRow.laid ((laidWorld os).forCall (fun _ _ => 0) ⟨#[], args, []⟩).memory :=
  laidMet_of_run' 8 (by kernel_rfl) (by kernel_rfl)
theorem plainLaid : (Rows.valueMaysRow.laid.all fun x => x.2.handleName?.isNone) = true := by kernel_rfl
theorem laid_metH (os : Os) (args : Array Value) : laidMetH Tryd.prog Rows.valueMaysRow.laid ((laidWorld os).forCall (fun _ _ => 0) ⟨#[], args, []⟩).memory := by
  rw [MakeChecks.laidMetH_plain _ _ _ plainLaid]; exact laid_met os args
theorem tabs_of {W : World} (h : laidMetH Tryd.prog Rows.valueMaysRow.laid W) : Lib.Utf8Tabs 0 1 W := by
  rw [MakeChecks.laidMetH_plain _ _ _ plainLaid] at h
  exact utf8Tabs_of_reads (ρ := Tryd.lays260_ren) Tryd.lays260 ⟨by kernel_rfl, by kernel_rfl, by kernel_rfl, by kernel_rfl, by kernel_rfl, by kernel_rfl, by kernel_rfl⟩ (Lib.laidMet.reads h (.tail _ (.head _))) (Lib.laidMet.reads h (.head _))

/-- The same tables in a world that bears the same blocks. -/
theorem tabs_heap {W w : World} (h : Lib.Utf8Tabs 0 1 W) (h0 : w.heap[0]? = W.heap[0]?) (h1 : w.heap[1]? = W.heap[1]?) : Lib.Utf8Tabs 0 1 w := by
  have e0 : ∀ c, w.cell? ⟨0, c, none⟩ = W.cell? ⟨0, c, none⟩ := fun c => by simp only [World.cell?, h0]
  have e1 : ∀ c, w.cell? ⟨1, c, none⟩ = W.cell? ⟨1, c, none⟩ := fun c => by simp only [World.cell?, h1]
  exact ⟨fun c hc => by rw [e0]; exact h.1 c hc, fun i hi => by rw [e1, e1]; exact h.2 i hi⟩
theorem heap_some {W : World} {b c : Nat} {v : Value} (h : W.cell? ⟨b, c, none⟩ = some v) : b < W.heap.size := by
  rcases Nat.lt_or_ge b W.heap.size with h1 | h1
  · exact h1
  · simp [World.cell?, Array.getElem?_eq_none h1] at h
/-- From the logic to the model: a call of plain data in a world where the tables lie. -/
theorem calls_of {f : FuncId} {args : List Lg.AV} {cargs : List Value} {W : World} (hT : Lib.Utf8Tabs 0 1 W) (ha : ∀ [Lg.GLay] (s : Lg.CS), Lg.PW s args cargs)
    (h : ∀ [Lg.GLay] [Lg.U8], Lg.ACalls Tryd.prog f args [] (Lg.Ret (.bool true) [])) : Calls Tryd.prog f cargs.toArray W fun e W' => e = .returned (.bool true) ∧ Go.RowKit.Below W.heap.size W W' := by
  letI : Lg.GLay := ⟨fun b => if b < 2 then W.heap[b]? else none⟩
  haveI : Lg.U8 := ⟨fun w hw => by
    have hb0 := heap_some (hT.1 0 (by decide))
    have hb1 := heap_some ((hT.2 0 (by decide)).1)
    refine tabs_heap hT ?_ ?_
    · rw [hw 0 (W.heap[0]) (by show (if (0 : Nat) < 2 then W.heap[0]? else none) = _; rw [if_pos (by decide)]; exact Array.getElem?_eq_getElem hb0)]; exact (Array.getElem?_eq_getElem hb0).symm
    · rw [hw 1 (W.heap[1]) (by show (if (1 : Nat) < 2 then W.heap[1]? else none) = _; rw [if_pos (by decide)]; exact Array.getElem?_eq_getElem hb1)]; exact (Array.getElem?_eq_getElem hb1).symm⟩
  let s0 : Lg.CS := { σ := [], μ := fun _ => ⟨0, 0, 0⟩, ok := fun b => b < W.heap.size, w := W }
  have g0 : Lg.Good s0 := ⟨fun b hb => hb, fun p o ho => by simp [s0] at ho, fun p q _ hp _ => by
      have : p < s0.σ.length := Lg.CS.live_lt hp
      simp [s0] at this, fun b o ho => by
      change (if b < 2 then W.heap[b]? else none) = some o at ho
      split at ho
      · exact ⟨(Array.getElem?_eq_some_iff.1 ho).1, ho⟩
      · cases ho⟩
  refine (h s0 cargs rfl g0 (ha s0)).mono fun e W' hc => ?_
  obtain ⟨s', rfl, g', x', hr⟩ := hc
  have hbel : Go.RowKit.Below W.heap.size W s'.w := ⟨x'.os, x'.tape, x'.output, x'.size, fun k hk => x'.frame k hk (fun p hp => by
    have : p < s0.σ.length := Lg.CS.live_lt hp
    simp [s0] at this)⟩
  cases e with
  | returned cv =>
    obtain ⟨v, hv, he, _⟩ := hr
    injection he with he
    subst he
    rw [hv.inv_bool]
    exact ⟨rfl, hbel⟩
  | outgrown => exact hr.elim
  | panicked ch =>
    cases ch with
    | nil => exact hr.elim
    | cons en r =>
      cases r with
      | nil => obtain ⟨_, v, _, he, _⟩ := hr; cases he
      | cons => exact hr.elim

theorem cells4 : Tryd.prog.cellsOf 4 = 1 := by kernel_rfl
theorem cells9 : Tryd.prog.cellsOf 9 = 1 := by kernel_rfl
theorem cells3 : Tryd.prog.cellsOf 3 = 1 := by kernel_rfl
theorem cells23 : Tryd.prog.cellsOf 23 = 3 := by kernel_rfl
section
variable {H : Type} {enc : TypeId × Value → H} {W : World} {base : Nat} {sp : Nat → Bool} {held : Bool}
theorem open_num {r : Reach} {b0 : Nat} {v : Value} {d : DataW H} {ps : List MemPlace} (hval : Value.okWide Tryd.prog W r b0 23 v) (hd : DataW.Trod enc Tryd.prog W base sp held 23 v d ps) :
    ∃ (b : Bool) (s : ByteArray) (n : Int), v = .agg #[.bool b, .string s, .int .i64 n] ∧ d = .agg [.lit (.bool b), .lit (.string s.data.toList), .lit (.int .i64 n)] ∧ ps = [] ∧ s.size ≤ maxLen ∧ (Lit.int .i64 n).wf = true := by
  obtain ⟨cs, rfl, hcs⟩ := okWide_struct Tryd.underlying23 hval
  obtain ⟨fuel, hd⟩ := hd
  obtain ⟨y0, y1, y2, m, hx, hl, e0, e1, e2⟩ := Go.Deep.trod_struct3 Tryd.underlying23 hd
  obtain ⟨b, c0, rfl⟩ := DataW.trod_bool Tryd.underlying4 e0
  obtain ⟨s, c1, rfl, hs⟩ := DataW.trod_string Tryd.underlying9 e1
  obtain ⟨n, c2, rfl, hn⟩ := DataW.trod_int Tryd.underlying3 e2
  simp only [cells4, cells9, cells3] at c0 c1 c2
  obtain ⟨l⟩ := cs
  rw [cells23] at hcs
  simp only [Value.cells] at c0 c1 c2
  match l, hcs with
  | [x, y, z], _ =>
    simp at c0 c1 c2
    subst c0; subst c1; subst c2
    simp at hx
    obtain ⟨rfl, rfl⟩ := hx
    exact ⟨b, s, n, rfl, rfl, rfl, hs, hn⟩
theorem shut_num {b : Bool} {s : ByteArray} {n : Int} (hs : s.size ≤ maxLen) (hn : (Lit.int .i64 n).wf = true) :
    DataW.Trod enc Tryd.prog W base sp held 23 (.agg #[.bool b, .string s, .int .i64 n]) (.agg [.lit (.bool b), .lit (.string s.data.toList), .lit (.int .i64 n)]) [] := by
  obtain ⟨f0, h0⟩ := shut_bool (enc := enc) (w := W) (base := base) (spare := sp) (held := held) Tryd.underlying4 b
  obtain ⟨f1, h1⟩ := shut_string (enc := enc) (w := W) (base := base) (sp := sp) (held := held) Tryd.underlying9 hs
  obtain ⟨f2, h2⟩ := shut_int (enc := enc) (w := W) (base := base) (spare := sp) (held := held) Tryd.underlying3 hn
  have e0 := DataW.trod_le (Nat.le_add_right f0 (f1 + f2)) h0
  have e1 := DataW.trod_le (show f1 ≤ f0 + (f1 + f2) by omega) h1
  have e2 := DataW.trod_le (show f2 ≤ f0 + (f1 + f2) by omega) h2
  have := Go.Deep.trod_struct3_mk (cs := [.bool b, .string s, .int .i64 n]) Tryd.underlying23 (by rw [cells23]; rfl) (by simp only [cells4]; exact e0) (by simp only [cells9]; exact e1) (by simp only [cells3]; exact e2)
  exact ⟨_, this⟩
end

theorem lifted (os : Os) (started : os.Started) (H : Type) (enc : TypeId × Value → H) :
    ReturnsInHanded {} Tryd.checked os 3 .any (fun w args => (Rows.valueMaysSpec.pre enc Tryd.prog Tryd.f3 [] false w args ∧ laidMetH Tryd.prog Rows.valueMaysRow.laid w) ∧ sizedMet enc Tryd.prog Tryd.f3 (OpenSpec.ofChange Rows.valueMaysSpec) false w args)
      (Rows.valueMaysSpec.post enc Tryd.prog Tryd.f3 false true false false) := by
  refine returnsInHanded_of_change_and (C := Tryd.checked) (X := fun w _ => laidMetH Tryd.prog Rows.valueMaysRow.laid w) (fun _ _ _ hh h => h.of_heap hh) own started (by kernel_rfl) Tryd.func3
    (ChangeSpec.witness_shaped (enc := enc) (C := Tryd.checked) (os := os) (X := fun w _ => laidMetH Tryd.prog Rows.valueMaysRow.laid w) false (laidWorld os) #[.int .i64 0, .bool false, .agg #[.bool false, .string ⟨#[]⟩, .int .i64 0], .string ⟨#[]⟩, .string ⟨#[]⟩, .string ⟨#[]⟩, .bool false] 8 rfl
      (World.shaped_of_RefB (by kernel_rfl) (by kernel_rfl)) (by kernel_rfl) (by kernel_rfl) (by kernel_rfl) (laid_metH os _)) ?_
  intro W base args ds gs before hval0 hW _ _ hL _
  have hval : ∀ (j : Nat) t v, Tryd.f3.params[j]? = some t → args[j]? = some v → Value.okWide Tryd.prog W .any base t v := hval0
  have hW' := hW
  obtain ⟨p, q, hA0, hV, rfl, hfz, hnd⟩ := hW
  have hA : DataW.TrodAll enc Tryd.prog W 0 (fun _ => true) true Tryd.f3.params.toList args.toList ds p := hA0
  rw [Tryd.params3] at hA hval
  obtain ⟨v0, vs0, d0, ds0, p0, q0, hargs, rfl, rfl, h0, r0⟩ := trodAll_cons hA
  obtain ⟨v1, vs1, d1, ds1, p1, q1, rfl, rfl, rfl, h1, r1⟩ := trodAll_cons r0
  obtain ⟨v2, vs2, d2, ds2, p2, q2, rfl, rfl, rfl, h2, r2⟩ := trodAll_cons r1
  obtain ⟨v3, vs3, d3, ds3, p3, q3, rfl, rfl, rfl, h3, r3⟩ := trodAll_cons r2
  obtain ⟨v4, vs4, d4, ds4, p4, q4, rfl, rfl, rfl, h4, r4⟩ := trodAll_cons r3
  obtain ⟨v5, vs5, d5, ds5, p5, q5, rfl, rfl, rfl, h5, r5⟩ := trodAll_cons r4
  obtain ⟨v6, vs6, d6, ds6, p6, q6, rfl, rfl, rfl, h6, r6⟩ := trodAll_cons r5
  obtain ⟨rfl, rfl, rfl⟩ := trodAll_nil r6
  obtain rfl : args = #[v0, v1, v2, v3, v4, v5, v6] := by cases args; simp_all
  obtain ⟨rfl, rfl⟩ := trodVars_none hV
  obtain ⟨kind, rfl, rfl, rfl, w0⟩ := open_int Tryd.underlying3 (hval 0 3 v0 rfl rfl) h0
  obtain ⟨b, rfl, rfl, rfl⟩ := open_bool Tryd.underlying4 (hval 1 4 v1 rfl rfl) h1
  obtain ⟨ng, dg, ex, rfl, rfl, rfl, wd, we⟩ := open_num (hval 2 23 v2 rfl rfl) h2
  obtain ⟨s, rfl, rfl, rfl, ws⟩ := open_string Tryd.underlying9 (hval 3 9 v3 rfl rfl) h3
  obtain ⟨key, rfl, rfl, rfl, wk⟩ := open_string Tryd.underlying9 (hval 4 9 v4 rfl rfl) h4
  obtain ⟨other, rfl, rfl, rfl, wo⟩ := open_string Tryd.underlying9 (hval 5 9 v5 rfl rfl) h5
  obtain ⟨list, rfl, rfl, rfl⟩ := open_bool Tryd.underlying4 (hval 6 4 v6 rfl rfl) h6
  clear hA0 hval0
  simp only [List.append_nil] at hW'
  have hcall := calls_of (f := 3) (args := [.int .i64 kind, .bool b, .agg (Lg.ncells ⟨ng, dg, ex⟩), .str s, .str key, .str other, .bool list]) (cargs := [.int .i64 kind, .bool b, .agg #[.bool ng, .string dg, .int .i64 ex], .string s, .string key, .string other, .bool list]) (tabs_of hL)
    (fun st => .cons (.int _ _) (.cons (.bool _) (.cons (.agg _ [.bool ng, .string dg, .int .i64 ex] rfl (Lg.PW.cons (.bool _) (.cons (.str _) (.cons (.int _ _) .nil))).2) (.cons (.str _) (.cons (.str _) (.cons (.str _) (.cons (.bool _) .nil)))))))
    (Lg.valueMays_c kind b ⟨ng, dg, ex⟩ s key other list [])
  refine hcall.mono fun e W' ⟨he, hg⟩ => ?_
  subst he
  refine ⟨_, rfl, _, _, _, [], [], [], hW', trodAll_mk1 (shut_bool Tryd.underlying4 _), ?_, rfl, hg.frame _, fun h => by cases h⟩
  exact trodAll_cons_mk (shut_int Tryd.underlying3 w0) (trodAll_cons_mk (shut_bool Tryd.underlying4 _) (trodAll_cons_mk (shut_num wd we) (trodAll_cons_mk (shut_string Tryd.underlying9 ws) (trodAll_cons_mk (shut_string Tryd.underlying9 wk) (trodAll_cons_mk (shut_string Tryd.underlying9 wo) (trodAll_cons_mk (shut_bool Tryd.underlying4 _) trodAll_mk0))))))

theorem valueMays_holds : Rows.ValueMaysSaid :=
  OpenClaim.holds_of_wide 3 Tryd.f3 rfl rfl rfl rfl rfl rfl rfl ⟨rfl, rfl, rfl, rfl, rfl⟩ rfl rfl rfl rfl rfl (by kernel_rfl) Tryd.func3 (by kernel_rfl)
    (of_decide_eq_true (by kernel_rfl)) (by unfold Func.isWrapper; first | (rw [if_pos (by decide +kernel)]; kernel_rfl) | (rw [if_neg (by decide +kernel)]; exact ⟨rfl, rfl⟩))
    (fun os started H enc _ => lifted os started H enc)
end Go.Proofs.YtehjmhgedbfddaaDoor
