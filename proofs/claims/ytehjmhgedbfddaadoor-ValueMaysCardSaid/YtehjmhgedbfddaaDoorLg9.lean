import Derived.Test.YtehjmhgedbfddaaDoorLg8
set_option linter.unusedVariables false
set_option linter.unusedSimpArgs false
set_option linter.unusedSectionVars false
namespace Lg
open Go Go.RowKit
variable [GLay]

variable {P : Program} {σ : List AO} {e : Env} {o : Oper}

/-- A new array of the call's own: its first cells are known. -/
theorem Good.newArr {s : CS} (g : Good s) {sz : Nat} {cs : List AV} {vs : List Value} (h : PW s cs (vs.take cs.length)) (hl : cs.length ≤ vs.length) (T : TypeId) {w : World} (hw : Below s.w.heap.size s.w w) (hws : w.heap.size = s.w.heap.size) :
    ∃ s', s'.σ = s.σ ++ [.arr sz 0 cs] ∧ s'.w = w.alloc (.cells vs.toArray T (0, 0)) ∧ Good s' ∧ Ext s s' ∧ s'.μ s.σ.length = ⟨s.w.heap.size, 0, vs.length⟩ := by
  let s' : CS := { σ := s.σ ++ [.arr sz 0 cs], μ := fun p => if p = s.σ.length then ⟨s.w.heap.size, 0, vs.length⟩ else s.μ p, ok := s.ok, w := w.alloc (.cells vs.toArray T (0, 0)) }
  have hlt : ∀ {p : Nat} {o : AO}, s.σ[p]? = some o → p < s.σ.length := fun h => (List.getElem?_eq_some_iff.1 h).1
  have hold : ∀ {p : Nat}, p < s.σ.length → s'.σ[p]? = s.σ[p]? ∧ s'.μ p = s.μ p := fun {p} h =>
    ⟨by show (s.σ ++ [_])[p]? = _; rw [List.getElem?_append_left h], by show (if p = _ then _ else _) = _; rw [if_neg (by omega)]⟩
  have hnew : s'.σ[s.σ.length]? = some (.arr sz 0 cs) ∧ s'.μ s.σ.length = ⟨s.w.heap.size, 0, vs.length⟩ := ⟨by show (s.σ ++ [_])[_]? = _; simp, by show (if _ = _ then _ else _) = _; rw [if_pos rfl]⟩
  have hcase : ∀ {p : Nat} {o : AO}, s'.σ[p]? = some o → (p < s.σ.length ∧ s.σ[p]? = some o ∧ s'.μ p = s.μ p) ∨ (p = s.σ.length ∧ o = .arr sz 0 cs) := fun {p o} h => by
    rcases Nat.lt_trichotomy p s.σ.length with hp | hp | hp
    · exact .inl ⟨hp, (hold hp).1 ▸ h, (hold hp).2⟩
    · subst hp
      rw [hnew.1] at h
      exact .inr ⟨rfl, (Option.some.inj h).symm⟩
    · have : s'.σ[p]? = none := by show (s.σ ++ [_])[p]? = _; apply List.getElem?_eq_none; simp; omega
      rw [this] at h; cases h
  have hlive : ∀ {p : Nat}, s'.live p → (p < s.σ.length ∧ s.live p ∧ s'.μ p = s.μ p) ∨ p = s.σ.length := fun {p} h => by
    have hp := CS.live_lt h
    have hl : s'.σ.length = s.σ.length + 1 := by show (s.σ ++ [_]).length = _; simp
    rcases Nat.lt_or_ge p s.σ.length with h1 | h1
    · refine .inl ⟨h1, ?_, (hold h1).2⟩
      unfold CS.live at h ⊢
      rw [(hold h1).1, (hold h1).2] at h
      exact h
    · exact .inr (by omega)
  have hsz : s'.w.heap.size = s.w.heap.size + 1 := by show (w.alloc _).heap.size = _; rw [alloc_size, hws]
  have hheap : ∀ {b : Nat}, b < s.w.heap.size → s'.w.heap[b]? = s.w.heap[b]? := fun {b} hb => by
    show (w.alloc _).heap[b]? = _; rw [alloc_heap, if_neg (by omega)]; exact hw.block b hb
  have x : Ext s s' := {
    objs := fun p o h => ⟨o, by rw [(hold (hlt h)).1]; exact h, OLe.refl o, fun _ => (hold (hlt h)).2⟩
    ok := fun _ h => h
    mun := fun p h => by
      rcases hlive h with ⟨h1, h2, h3⟩ | rfl
      · exact .inl ⟨h1, h2, by rw [h3]⟩
      · exact .inr (by rw [hnew.2]; exact Nat.le_refl _)
    frame := fun b hb _ => hheap hb
    size := by omega
    tape := hw.tape
    os := hw.os
    output := hw.output }
  refine ⟨s', rfl, rfl, ⟨fun b hb => Nat.lt_of_lt_of_le (g.okb b hb) x.size, fun p o ho => ?_, fun p q hpq hp hq => ?_, fun b o ho => ?_⟩, x, hnew.2⟩
  · rcases hcase ho with ⟨h1, h2, h3⟩ | ⟨rfl, rfl⟩
    · exact (g.obj p o h2).mono g x h3 id fun vs T hb _ => (hheap (Array.getElem?_eq_some_iff.1 hb).1).trans hb
    · by_cases h0 : vs.length = 0
      · refine .inl ⟨by rw [hnew.2]; exact h0, List.eq_nil_of_length_eq_zero (by omega)⟩
      · refine .inr ⟨by rw [hnew.2]; exact h0, ?_, vs, T, ?_, by rw [hnew.2], by rw [hnew.2]; simpa using hl, ?_⟩
        · rw [hnew.2]; exact fun hk => absurd (g.okb _ hk) (by simp)
        · rw [hnew.2]; show (w.alloc _).heap[_]? = _; rw [alloc_heap, if_pos (by rw [hws])]
        · rw [hnew.2]; exact h.mono g x
  · rcases hlive hp with ⟨p1, p2, p3⟩ | rfl <;> rcases hlive hq with ⟨q1, q2, q3⟩ | rfl
    · rw [p3, q3]; exact g.inj p q hpq p2 q2
    · rw [p3, hnew.2]; have := (g.live_lt p2).1; show _ ≠ s.w.heap.size; omega
    · rw [q3, hnew.2]; have := (g.live_lt q2).1; show s.w.heap.size ≠ _; omega
    · exact absurd rfl hpq
  · obtain ⟨h1, h2⟩ := g.glob b o ho
    exact ⟨h1, (hheap (g.okb b h1)).trans h2⟩

theorem V.newArr {s' : CS} {p sz b tot : Nat} {cs : List AV} (hσ : s'.σ[p]? = some (.arr sz 0 cs)) (hμ : s'.μ p = ⟨b, 0, tot⟩) {len cap : Nat} (h1 : len ≤ cap) (h2 : cap * sz ≤ tot) :
    V s' (.arr p 0 sz 0 len) (.slice (some ⟨b, 0, none⟩) len cap) := by
  refine .arr p 0 sz 0 len _ rfl ?_
  unfold ArrAt
  rw [hσ]
  refine ⟨Nat.le_refl _, fun _ => ⟨rfl, .inr ⟨cap, ?_, h1, ?_⟩⟩⟩
  · rw [hμ]; simp
  · rw [hμ]; simpa using h2

theorem parts_map (a : Act) (parts : Array (Nat × Operand)) : (parts.map fun (q : Nat × Operand) => (q.1, a.eval q.2)).toList = parts.toList.map fun q => (q.1, a.eval q.2) := by simp
/-- The cells that a slice literal lays. -/
theorem buildSlice_cells {s : CS} {a : Act} {parts : Array (Nat × Operand)} {z : Value} {sz len : Nat} {cs : List AV} (hpart : ∀ q ∈ parts.toList, V s (opv e q.2) (a.eval q.2)) (hzs : z.cells.size = sz)
    (h1 : (parts.toList.all fun q => ones (opv e q.2).cells && (opv e q.2).cells.length == sz) = true)
    (hb : bld (fun i => some (i * sz)) ((List.replicate len (z.cells.toList.map ofConst1)).flatten) e parts.toList = some cs) :
    ∃ us : List Value, Instr.fill (fun i => some (i * sz, sz)) ((Array.range (len * sz)).map (z.cells[· % z.cells.size]!)) (parts.map fun (q : Nat × Operand) => (q.1, a.eval q.2)).toList = some us.toArray ∧ PW s cs us := by
  have hz1 : ((Array.range (len * sz)).map (z.cells[· % z.cells.size]!)).toList = (List.replicate len z.cells.toList).flatten := by
    apply List.ext_getElem?
    intro j
    by_cases hj : j < len * sz
    · have hsz : 0 < sz := by
        rcases Nat.eq_zero_or_pos sz with h | h
        · rw [h] at hj; simp at hj
        · exact h
      have hm : j % sz < sz := Nat.mod_lt _ hsz
      have hR : (List.replicate len z.cells.toList).flatten[j]? = z.cells.toList[j % sz]? := by
        clear h1 hb
        induction len generalizing j with
        | zero => simp at hj
        | succ n ih =>
          simp only [List.replicate_succ, List.flatten_cons]
          rw [List.getElem?_append]
          simp only [Array.length_toList, hzs]
          by_cases hjz : j < sz
          · rw [if_pos hjz, Nat.mod_eq_of_lt hjz]
          · rw [if_neg hjz]
            have hj' : j < n * sz + sz := by rw [← Nat.succ_mul]; exact hj
            have := ih (j - sz) (by omega) (Nat.mod_lt _ hsz)
            have hm2 : j % sz = (j - sz) % sz := Nat.mod_eq_sub_mod (by omega)
            rw [this, hm2]
      rw [hR]
      simp [hj, hzs, hm]
    · have h2 : (List.replicate len z.cells.toList).flatten.length = len * sz := by simp [hzs]
      rw [List.getElem?_eq_none (by simp; omega), List.getElem?_eq_none (by rw [h2]; omega)]
  have hp1 : PW s (z.cells.toList.map ofConst1) z.cells.toList := ⟨by simp, fun i c v h1 h2 => by
    rw [List.getElem?_map, h2] at h1; simp at h1; subst h1; exact V_ofConst1 s v⟩
  have hp : PW s ((List.replicate len (z.cells.toList.map ofConst1)).flatten) ((List.replicate len z.cells.toList).flatten) := by
    clear h1 hb hz1
    induction len with
    | zero => exact .nil
    | succ n ih => simp only [List.replicate_succ, List.flatten_cons]; exact hp1.append ih
  obtain ⟨us, h2, h3⟩ := run_fill (s := s) (ev := a.eval) (fun i : Nat => some (i * sz, sz)) (fun i : Nat => some (i * sz)) (fun _ => sz) (fun i off h => by simp at h; simp [h]) parts.toList _ cs _ (fun q hq => by
    simp only [List.all_eq_true, Bool.and_eq_true, beq_iff_eq] at h1
    exact ⟨hpart q hq, h1 q hq⟩) hp hb
  refine ⟨us, ?_, h3⟩
  rw [parts_map, ← h2]
  congr 1
  apply Array.ext'
  rw [hz1]

theorem op_buildSlice {T E : TypeId} {len sz : Nat} {parts : Array (Nat × Operand)} {z : Value} {cs : List AV} (es : List (List AV)) (ho : o.op = .buildSlice T len parts) (hu : P.underlying T = some (.slice E))
    (hsz : ∀ w, (Go.sizeOf E).run P w = Result.ok sz w) (hz : ∀ w, (zeroValue E).run P w = Result.ok z w) (hzs : z.cells.size = sz) (hsm : len * sz ≤ 16777216) (hpos : len * sz ≠ 0)
    (h1 : (parts.toList.all fun q => ones (opv e q.2).cells && (opv e q.2).cells.length == sz) = true)
    (hb : bld (fun i => some (i * sz)) ((List.replicate len (z.cells.toList.map ofConst1)).flatten) e parts.toList = some cs) (hes : es.flatten = cs) (hel : (es.all fun r => r.length == sz) = true) (hlen : es.length = len) :
    AOp P σ e o (.sl true sz es) σ := by
  intro s a hs g hv K Q hk _
  subst hs
  obtain ⟨us, h2, h3⟩ := buildSlice_cells (s := s) (a := a) (fun q hq => hv q.2 (by simp only [ho, Op.operands]; simp; exact ⟨q.1, by simpa using hq⟩)) hzs h1 hb
  obtain ⟨s', e1, e2, g', x', hok⟩ := g.row us E
  have hpos' : ¬ len * sz = 0 := hpos
  refine wp_value (w' := s'.w) ?_ (hk _ (.slice (some ⟨s.w.heap.size, 0, none⟩) len len) s' ⟨rfl, e1⟩ g' x' ?_)
  · rw [e2]
    simp only [execOp, ho, Instr.buildSlice, Sem.run_bind, run_underlying hu, hsz, Result.andThen_ok, Sem.run_ite, hpos', if_false, hz, Sem.run_pure]
    rw [if_neg (by omega)]
    rw [show (parts.map fun (x : Nat × Operand) => match x with | (i, x) => (i, a.eval x)) = parts.map fun (q : Nat × Operand) => (q.1, a.eval q.2) from rfl, h2]
    simp [newRow, newObj, Sem.run]
  · subst hlen
    have hcap : es.length ≤ es.length := Nat.le_refl _
    refine .sl true sz es s.w.heap.size 0 es.length us (.inr hok) (fun r hr => ?_) ?_ (fun i v hi => ?_) (fun i c v hc hv' => ?_) hcap fun _ => rfl
    · simp only [List.all_eq_true, beq_iff_eq] at hel; exact hel r hr
    · rw [hes]; exact h3.1
    · rw [e2, Nat.zero_add]
      simp only [World.cell?, alloc_heap, if_true]
      simpa using hi
    · rw [hes] at hc; exact (h3.2 i c v hc hv').mono g x'
/-- The same, as an array of the call's own. -/
theorem op_buildSliceArr {T E : TypeId} {len sz : Nat} {parts : Array (Nat × Operand)} {z : Value} {cs : List AV} (ho : o.op = .buildSlice T len parts) (hu : P.underlying T = some (.slice E))
    (hsz : ∀ w, (Go.sizeOf E).run P w = Result.ok sz w) (hz : ∀ w, (zeroValue E).run P w = Result.ok z w) (hzs : z.cells.size = sz) (hsm : len * sz ≤ 16777216) (hpos : len * sz ≠ 0)
    (h1 : (parts.toList.all fun q => ones (opv e q.2).cells && (opv e q.2).cells.length == sz) = true)
    (hb : bld (fun i => some (i * sz)) ((List.replicate len (z.cells.toList.map ofConst1)).flatten) e parts.toList = some cs) (hcl : cs.length = len * sz) :
    AOp P σ e o (.arr σ.length 0 sz 0 len) (σ ++ [.arr sz 0 cs]) := by
  intro s a hs g hv K Q hk _
  subst hs
  obtain ⟨us, h2, h3⟩ := buildSlice_cells (s := s) (a := a) (fun q hq => hv q.2 (by simp only [ho, Op.operands]; simp; exact ⟨q.1, by simpa using hq⟩)) hzs h1 hb
  have hul : us.length = len * sz := by rw [h3.1, hcl]
  obtain ⟨s', e1, e2, g', x', hμ⟩ := g.newArr (sz := sz) (cs := cs) (vs := us) (by rw [List.take_of_length_le (by rw [h3.1]; exact Nat.le_refl _)]; exact h3) (by rw [h3.1]; exact Nat.le_refl _) E (Below.refl _ _) rfl
  have hpos' : ¬ len * sz = 0 := hpos
  refine wp_value (w' := s'.w) ?_ (hk _ (.slice (some ⟨s.w.heap.size, 0, none⟩) len len) s' ⟨rfl, e1⟩ g' x' ?_)
  · rw [e2]
    simp only [execOp, ho, Instr.buildSlice, Sem.run_bind, run_underlying hu, hsz, Result.andThen_ok, Sem.run_ite, hpos', if_false, hz, Sem.run_pure]
    rw [if_neg (by omega)]
    rw [show (parts.map fun (x : Nat × Operand) => match x with | (i, x) => (i, a.eval x)) = parts.map fun (q : Nat × Operand) => (q.1, a.eval q.2) from rfl, h2]
    simp [newRow, newObj, Sem.run]
  · exact V.newArr (cs := cs) (by rw [e1]; simp) hμ (Nat.le_refl _) (by rw [hul]; exact Nat.le_refl _)
end Lg
