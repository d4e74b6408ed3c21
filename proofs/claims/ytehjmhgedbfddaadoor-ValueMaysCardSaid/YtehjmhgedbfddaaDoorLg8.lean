import Derived.Test.YtehjmhgedbfddaaDoorLg7
set_option linter.unusedVariables false
set_option linter.unusedSimpArgs false
set_option linter.unusedSectionVars false
namespace Lg
open Go Go.RowKit
variable [GLay]

variable {P : Program} {σ : List AO} {e : Env} {o : Oper}

/-! ### New memory -/
theorem op_box {T : TypeId} {x : Operand} {cs : List AV} (ho : o.op = .box T x) (hx : (opv e x).cells = cs) (h1 : ones cs = true) : AOp P σ e o (.ptr σ.length 0) (σ ++ [.box cs]) := by
  intro s a hs g hv K Q hk _
  subst hs
  subst hx
  obtain ⟨vs, hvs, hp, _⟩ := (hv x (by simp [ho, Op.operands])).cells h1
  obtain ⟨s', e1, e2, g', x', hv'⟩ := g.box hp T
  refine wp_value (w' := s'.w) ?_ (hk _ _ s' ⟨rfl, e1⟩ g' x' hv')
  have : (a.eval x).cells = vs.toArray := by rw [← hvs]
  rw [e2]
  simp [execOp, ho, Instr.box, newVar, newRow, newObj, this, Sem.run]
theorem op_alloc {T : TypeId} {z : Value} {cs : List AV} (ho : o.op = .alloc T) (hz : ∀ w, (zeroValue T).run P w = Result.ok z w) (hx : z.cells.toList.map ofConst1 = cs) : AOp P σ e o (.ptr σ.length 0) (σ ++ [.box cs]) := by
  intro s a hs g hv K Q hk _
  subst hs
  subst hx
  have hp : PW s (z.cells.toList.map ofConst1) z.cells.toList := ⟨by simp, fun i c v h1 h2 => by
    rw [List.getElem?_map, h2] at h1; simp at h1; subst h1; exact V_ofConst1 s v⟩
  obtain ⟨s', e1, e2, g', x', hv'⟩ := g.box hp T
  refine wp_value (w' := s'.w) ?_ (hk _ _ s' ⟨rfl, e1⟩ g' x' hv')
  rw [e2]
  simp [execOp, ho, Instr.alloc, hz, newVar, newRow, newObj, Sem.run]

/-! ### Structs -/
/-- The parts laid into zero cells. -/
def bld (place : Nat → Option Nat) (cs : List AV) (e : Env) : List (Nat × Operand) → Option (List AV)
  | [] => some cs
  | (i, x) :: r => match place i with
    | some off => match spl off cs (opv e x).cells with
      | some ds => bld place ds e r
      | none => none
    | none => none

theorem foldl_set (cells : Array Value) (off : Nat) : ∀ (us : List Value) (k : Nat), off + k + us.length ≤ cells.size →
    (us.zipIdx k).foldl (fun cs (c, j) => cs.setIfInBounds (off + j) c) cells = (cells.toList.take (off + k) ++ us ++ cells.toList.drop (off + k + us.length)).toArray := by
  intro us
  induction us generalizing cells with
  | nil => intro k h; simp
  | cons u us ih =>
    intro k h
    simp only [List.zipIdx_cons, List.foldl_cons]
    rw [ih (cells.setIfInBounds (off + k) u) (k + 1) (by simp at h ⊢; omega)]
    have := list_seg_step cells.toList (off + k) u us (by simp at h ⊢; omega)
    congr 1
    simpa [Array.toList_setIfInBounds, Nat.add_assoc] using this

theorem run_fill {s : CS} {ev : Operand → Value} (pl : Nat → Option (Nat × Nat)) (place : Nat → Option Nat) (sz : Nat → Nat) (hpl : ∀ i off, place i = some off → pl i = some (off, sz i)) : ∀ (parts : List (Nat × Operand)) (cs ds : List AV) (vs : List Value),
    (∀ q ∈ parts, V s (opv e q.2) (ev q.2) ∧ ones (opv e q.2).cells = true ∧ (opv e q.2).cells.length = sz q.1) → PW s cs vs → bld place cs e parts = some ds →
    ∃ us : List Value, Instr.fill pl vs.toArray (parts.map fun q => (q.1, ev q.2)) = some us.toArray ∧ PW s ds us
  | [], cs, ds, vs, _, hp, hb => by
    simp only [bld, Option.some.injEq] at hb
    subst hb
    exact ⟨vs, by simp [Instr.fill], hp⟩
  | (i, x) :: r, cs, ds, vs, hv, hp, hb => by
    simp only [bld] at hb
    split at hb
    · rename_i off hoff
      split at hb
      · rename_i ds' hs
        obtain ⟨rfl, hfit⟩ := spl_eq hs
        obtain ⟨h1, h2, h3⟩ := hv (i, x) (by simp)
        have h3 : (opv e x).cells.length = sz i := h3
        have h1 : V s (opv e x) (ev x) := h1
        have h2 : ones (opv e x).cells = true := h2
        obtain ⟨us, hu, hpw, _⟩ := h1.cells h2
        have hul : us.length = sz i := by rw [hpw.1]; exact h3
        have hcs : (ev x).cells.size = sz i := by rw [← hul, ← hu]; simp
        have hnew : PW s (cs.take off ++ (opv e x).cells ++ cs.drop (off + (opv e x).cells.length)) (vs.take off ++ us ++ vs.drop (off + us.length)) := by
          rw [← hpw.1]; exact ((hp.take off).append hpw).append (hp.drop _)
        obtain ⟨ws, hw1, hw2⟩ := run_fill pl place sz hpl r _ ds _ (fun q hq => hv q (by simp [hq])) hnew hb
        refine ⟨ws, ?_, hw2⟩
        simp only [List.map_cons, Instr.fill, hpl i off hoff]
        rw [if_neg (by
          have := hp.1
          rw [hcs]
          simp only [ne_eq, not_true_eq_false, decide_false, Bool.false_or, decide_eq_true_eq, List.size_toArray]
          omega)]
        have hz : (ev x).cells.zipIdx = (us.zipIdx).toArray := by
          have : (ev x).cells = us.toArray := by rw [← hu]
          rw [this]; simp
        have hfold : (ev x).cells.zipIdx.foldl (fun cs (c, j) => cs.setIfInBounds (off + j) c) vs.toArray = (vs.take off ++ us ++ vs.drop (off + us.length)).toArray := by
          rw [hz]
          have h4 := foldl_set vs.toArray off us 0 (by simp only [List.size_toArray]; have := hp.1; have := hpw.1; omega)
          simpa using h4
        rw [hfold]
        exact hw1
      · cases hb
    · cases hb

theorem op_build {T : TypeId} {parts : Array (Nat × Operand)} {fs : Array Field} {z : Value} {cs : List AV} (pls : List (Nat × Nat)) (ho : o.op = .build T parts) (hu : P.underlying T = some (.struct fs))
    (hz : ∀ w, (zeroValue T).run P w = Result.ok z w) (hpls : ∀ w, (fs.mapM fun f => do pure (f.offset, ← Go.sizeOf f.type) : Sem (Array (Nat × Nat))).run P w = Result.ok pls.toArray w)
    (h1 : (parts.toList.all fun q => ones (opv e q.2).cells && (opv e q.2).cells.length == ((pls[q.1]?).map (·.2)).getD 0) = true)
    (hb : bld (fun i : Nat => (pls[i]?).map (·.1)) (z.cells.toList.map ofConst1) e parts.toList = some cs) : AOp P σ e o (.agg cs) σ :=
  .of_run fun s a _ _ hv => by
    have hp : PW s (z.cells.toList.map ofConst1) z.cells.toList := ⟨by simp, fun i c v h1 h2 => by
      rw [List.getElem?_map, h2] at h1; simp at h1; subst h1; exact V_ofConst1 s v⟩
    obtain ⟨us, h2, h3⟩ := run_fill (s := s) (ev := a.eval) (fun i : Nat => pls[i]?) (fun i : Nat => (pls[i]?).map (·.1)) (fun i : Nat => ((pls[i]?).map (·.2)).getD 0) (fun i off h => by
      simp only [Option.map_eq_some_iff] at h
      obtain ⟨q, h, rfl⟩ := h
      simp [h]) parts.toList _ cs _ (fun q hq => by
        simp only [List.all_eq_true, Bool.and_eq_true, beq_iff_eq] at h1
        exact ⟨hv q.2 (by simp only [ho, Op.operands]; simp; exact ⟨q.1, by simpa using hq⟩), h1 q hq⟩) hp hb
    refine ⟨.agg us.toArray, ?_, .agg _ _ h3.1 h3.2⟩
    have e1 : (parts.map fun (q : Nat × Operand) => (q.1, a.eval q.2)).toList = parts.toList.map fun q => (q.1, a.eval q.2) := by simp
    simp only [execOp, ho, Instr.build, Sem.run_bind, hz, Result.andThen_ok, run_underlying hu, hpls]
    have e2 : (fun i : Nat => pls.toArray[i]?) = fun i : Nat => pls[i]? := by funext i; simp
    rw [e2, e1]
    simp only [Array.toArray_toList] at h2
    rw [h2]
    simp
end Lg
