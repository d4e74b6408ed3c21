import Derived.Test.YtehjmhgedbfddaaDoorLg1
set_option linter.unusedVariables false
set_option linter.unusedSimpArgs false
set_option linter.unusedSectionVars false
namespace Lg
open Go Go.RowKit
variable [GLay]

/-! ### Cell by cell -/
section pw
variable {s : CS}
theorem PW.nil : PW s [] [] := ⟨rfl, fun i c v h => by simp at h⟩
theorem PW.cons {c : AV} {v : Value} {cs : List AV} {vs : List Value} (h : V s c v) (k : PW s cs vs) : PW s (c :: cs) (v :: vs) :=
  ⟨by simp [k.1], fun i c' v' h1 h2 => by
    cases i with
    | zero => simp at h1 h2; subst h1; subst h2; exact h
    | succ i => simp at h1 h2; exact k.2 i c' v' h1 h2⟩
theorem PW.inv_cons {c : AV} {cs : List AV} {vs : List Value} (h : PW s (c :: cs) vs) : ∃ v vs', vs = v :: vs' ∧ V s c v ∧ PW s cs vs' := by
  cases vs with
  | nil => have := h.1; simp at this
  | cons v vs => exact ⟨v, vs, rfl, h.2 0 c v rfl rfl, by have := h.1; simpa using this, fun i c' v' h1 h2 => h.2 (i + 1) c' v' (by simpa using h1) (by simpa using h2)⟩
theorem PW.inv_nil {vs : List Value} (h : PW s [] vs) : vs = [] := List.eq_nil_of_length_eq_zero h.1
theorem PW.get {cs : List AV} {vs : List Value} (h : PW s cs vs) {i : Nat} {c : AV} (hc : cs[i]? = some c) : ∃ v, vs[i]? = some v ∧ V s c v := by
  have hi := (List.getElem?_eq_some_iff.1 hc).1
  have hv : vs[i]? = some (vs[i]'(h.1 ▸ hi)) := List.getElem?_eq_getElem _
  exact ⟨_, hv, h.2 i c _ hc hv⟩
theorem PW.append {cs ds : List AV} {vs us : List Value} (h : PW s cs vs) (k : PW s ds us) : PW s (cs ++ ds) (vs ++ us) :=
  ⟨by simp [h.1, k.1], fun i c v h1 h2 => by
    rw [List.getElem?_append] at h1 h2
    rw [h.1] at h2
    split at h1
    · rename_i hl
      rw [if_pos hl] at h2
      exact h.2 i c v h1 h2
    · rename_i hl
      rw [if_neg hl] at h2
      exact k.2 _ c v h1 h2⟩
theorem PW.take {cs : List AV} {vs : List Value} (h : PW s cs vs) (n : Nat) : PW s (cs.take n) (vs.take n) :=
  ⟨by simp [h.1], fun i c v h1 h2 => by
    rw [List.getElem?_take] at h1 h2
    split at h1
    · rename_i hl
      rw [if_pos hl] at h2
      exact h.2 i c v h1 h2
    · simp at h1⟩
theorem PW.drop {cs : List AV} {vs : List Value} (h : PW s cs vs) (n : Nat) : PW s (cs.drop n) (vs.drop n) :=
  ⟨by simp [h.1], fun i c v h1 h2 => by
    rw [List.getElem?_drop] at h1 h2
    exact h.2 _ c v h1 h2⟩
theorem PW.set {cs : List AV} {vs : List Value} (h : PW s cs vs) (n : Nat) {c : AV} {v : Value} (k : V s c v) : PW s (cs.set n c) (vs.set n v) :=
  ⟨by simp [h.1], fun i c' v' h1 h2 => by
    rw [List.getElem?_set] at h1 h2
    rw [h.1] at h2
    split at h1
    · rename_i e
      rw [if_pos e] at h2
      split at h1
      · rename_i hl
        rw [if_pos hl] at h2
        cases h1; cases h2; exact k
      · simp at h1
    · rename_i e
      rw [if_neg e] at h2
      exact h.2 i c' v' h1 h2⟩
theorem PW.mono {s' : CS} (g : Good s) (x : Ext s s') {cs : List AV} {vs : List Value} (h : PW s cs vs) : PW s' cs vs :=
  ⟨h.1, fun i c v h1 h2 => (h.2 i c v h1 h2).mono g x⟩
end pw

/-! ### Turns of the state -/
theorem ORep.mono {s s' : CS} (g : Good s) (x : Ext s s') {p : Nat} {o : AO} (h : ORep s p o) (hm : s'.μ p = s.μ p) (hok : ¬ s.ok (s.μ p).b → ¬ s'.ok (s.μ p).b)
    (hb : ∀ (vs : Array Value) T, s.w.heap[(s.μ p).b]? = some (.cells vs T (0, 0)) → ¬ s.ok (s.μ p).b → s'.w.heap[(s.μ p).b]? = some (.cells vs T (0, 0))) : ORep s' p o := by
  cases o with
  | box cs =>
    obtain ⟨h1, vs, T, h2, h3⟩ := h
    exact ⟨by rw [hm]; exact hok h1, vs, T, by rw [hm]; exact hb _ _ h2 h1, h3.mono g x⟩
  | arr sz gg cs =>
    rcases h with ⟨h1, h2⟩ | ⟨h0, h1, vs, T, h2, h3, h4, h5⟩
    · exact .inl ⟨by rw [hm]; exact h1, h2⟩
    · refine .inr ⟨by rw [hm]; exact h0, by rw [hm]; exact hok h1, vs, T, by rw [hm]; exact hb _ _ h2 h1, by rw [hm]; exact h3, by rw [hm]; exact h4, ?_⟩
      rw [hm]; exact h5.mono g x
  | gone => trivial
  | dead => trivial

/-- The world grows by blocks that the state doesn't name; some orders may have been drawn. -/
theorem Good.grow {s : CS} (g : Good s) {w' : World} (h : Below s.w.heap.size s.w w') : Good { s with w := w' } ∧ Ext s { s with w := w' } := by
  have x : Ext s { s with w := w' } := {
    objs := fun _ o h => ⟨o, h, OLe.refl o, fun _ => rfl⟩
    ok := fun _ h => h
    mun := fun _ h => .inl ⟨CS.live_lt (s := s) h, h, rfl⟩
    frame := fun b hb _ => h.block b hb
    size := h.size
    tape := h.tape
    os := h.os
    output := h.output }
  refine ⟨⟨fun b hb => Nat.lt_of_lt_of_le (g.okb b hb) h.size, fun p o ho => ?_, fun p q hpq hp hq => g.inj p q hpq hp hq, fun b o ho => ?_⟩, x⟩
  · refine (g.obj p o ho).mono g x rfl id fun vs T hb _ => ?_
    show w'.heap[_]? = _
    rw [h.block _ (Array.getElem?_eq_some_iff.1 hb).1, hb]
  · obtain ⟨h1, h2⟩ := g.glob b o ho
    exact ⟨h1, (h.block b (g.okb b h1)).trans h2⟩

theorem alloc_heap (w : World) (o : Obj) (b : Nat) : (w.alloc o).heap[b]? = if b = w.heap.size then some o else w.heap[b]? := by
  show (w.heap.push o)[b]? = _
  rw [Array.getElem?_push]
theorem alloc_size (w : World) (o : Obj) : (w.alloc o).heap.size = w.heap.size + 1 := by show (w.heap.push o).size = _; simp

/-- A new box. -/
theorem Good.box {s : CS} (g : Good s) {cs : List AV} {vs : List Value} (h : PW s cs vs) (T : TypeId) :
    ∃ s', s'.σ = s.σ ++ [.box cs] ∧ s'.w = s.w.alloc (.cells vs.toArray T (0, 0)) ∧ Good s' ∧ Ext s s' ∧
      V s' (.ptr s.σ.length 0) (.pointer (some ⟨s.w.heap.size, 0, none⟩)) := by
  let s' : CS := { σ := s.σ ++ [.box cs], μ := fun p => if p = s.σ.length then ⟨s.w.heap.size, 0, 0⟩ else s.μ p, ok := s.ok, w := s.w.alloc (.cells vs.toArray T (0, 0)) }
  have hlt : ∀ {p : Nat} {o : AO}, s.σ[p]? = some o → p < s.σ.length := fun h => (List.getElem?_eq_some_iff.1 h).1
  have hold : ∀ {p : Nat}, p < s.σ.length → s'.σ[p]? = s.σ[p]? ∧ s'.μ p = s.μ p := fun {p} h =>
    ⟨by show (s.σ ++ [_])[p]? = _; rw [List.getElem?_append_left h], by show (if p = _ then _ else _) = _; rw [if_neg (by omega)]⟩
  have hnew : s'.σ[s.σ.length]? = some (.box cs) ∧ s'.μ s.σ.length = ⟨s.w.heap.size, 0, 0⟩ := ⟨by show (s.σ ++ [_])[_]? = _; simp, by show (if _ = _ then _ else _) = _; rw [if_pos rfl]⟩
  have hcase : ∀ {p : Nat} {o : AO}, s'.σ[p]? = some o → (p < s.σ.length ∧ s.σ[p]? = some o ∧ s'.μ p = s.μ p) ∨ (p = s.σ.length ∧ o = .box cs) := fun {p o} h => by
    rcases Nat.lt_trichotomy p s.σ.length with hp | hp | hp
    · exact .inl ⟨hp, (hold hp).1 ▸ h, (hold hp).2⟩
    · subst hp
      rw [hnew.1] at h
      exact .inr ⟨rfl, (Option.some.inj h).symm⟩
    · have : s'.σ[p]? = none := by show (s.σ ++ [_])[p]? = _; apply List.getElem?_eq_none; simp; omega
      rw [this] at h; cases h
  have hlive : ∀ {p : Nat}, s'.live p → (p < s.σ.length ∧ s.live p ∧ s'.μ p = s.μ p) ∨ p = s.σ.length := fun {p} h => by
    have hp := CS.live_lt h
    have hl : s'.σ.length = s.σ.length + 1 := by show (s.σ ++ [_]).length = _; simp
    rcases Nat.lt_or_ge p s.σ.length with h1 | h1
    · refine .inl ⟨h1, ?_, (hold h1).2⟩
      unfold CS.live at h ⊢
      rw [(hold h1).1, (hold h1).2] at h
      exact h
    · exact .inr (by omega)
  have hsz : s'.w.heap.size = s.w.heap.size + 1 := alloc_size _ _
  have hheap : ∀ {b : Nat}, b < s.w.heap.size → s'.w.heap[b]? = s.w.heap[b]? := fun {b} hb => by
    show (s.w.alloc _).heap[b]? = _; rw [alloc_heap, if_neg (by omega)]
  have x : Ext s s' := {
    objs := fun p o h => ⟨o, by rw [(hold (hlt h)).1]; exact h, OLe.refl o, fun _ => (hold (hlt h)).2⟩
    ok := fun _ h => h
    mun := fun p h => by
      rcases hlive h with ⟨h1, h2, h3⟩ | rfl
      · exact .inl ⟨h1, h2, by rw [h3]⟩
      · exact .inr (by rw [hnew.2]; exact Nat.le_refl _)
    frame := fun b hb _ => hheap hb
    size := by omega
    tape := rfl
    os := rfl
    output := rfl }
  refine ⟨s', rfl, rfl, ⟨fun b hb => Nat.lt_of_lt_of_le (g.okb b hb) x.size, fun p o ho => ?_, fun p q hpq hp hq => ?_, fun b o ho => ?_⟩, x, ?_⟩
  · rcases hcase ho with ⟨h1, h2, h3⟩ | ⟨rfl, rfl⟩
    · exact (g.obj p o h2).mono g x h3 id fun vs T hb _ => (hheap (Array.getElem?_eq_some_iff.1 hb).1).trans hb
    · refine ⟨?_, vs, T, ?_, h.mono g x⟩
      · rw [hnew.2]; exact fun hk => absurd (g.okb _ hk) (by simp)
      · rw [hnew.2]; show (s.w.alloc _).heap[_]? = _; rw [alloc_heap, if_pos rfl]
  · rcases hlive hp with ⟨p1, p2, p3⟩ | rfl <;> rcases hlive hq with ⟨q1, q2, q3⟩ | rfl
    · rw [p3, q3]; exact g.inj p q hpq p2 q2
    · rw [p3, hnew.2]; have := (g.live_lt p2).1; show _ ≠ s.w.heap.size; omega
    · rw [q3, hnew.2]; have := (g.live_lt q2).1; show s.w.heap.size ≠ _; omega
    · exact absurd rfl hpq
  · obtain ⟨h1, h2⟩ := g.glob b o ho
    exact ⟨h1, (hheap (g.okb b h1)).trans h2⟩
  · have := V.ptr (s := s') s.σ.length 0 (.box cs) hnew.1 rfl
    rw [hnew.2] at this
    exact this

/-- A new row that is never written again. -/
theorem Good.row {s : CS} (g : Good s) (vs : List Value) (T : TypeId) :
    ∃ s', s'.σ = s.σ ∧ s'.w = s.w.alloc (.cells vs.toArray T (0, 0)) ∧ Good s' ∧ Ext s s' ∧ s'.ok s.w.heap.size := by
  let s' : CS := { s with ok := fun b => s.ok b ∨ b = s.w.heap.size, w := s.w.alloc (.cells vs.toArray T (0, 0)) }
  have hheap : ∀ {b : Nat}, b < s.w.heap.size → s'.w.heap[b]? = s.w.heap[b]? := fun {b} hb => by
    show (s.w.alloc _).heap[b]? = _; rw [alloc_heap, if_neg (by omega)]
  have hsz : s'.w.heap.size = s.w.heap.size + 1 := alloc_size _ _
  have x : Ext s s' := {
    objs := fun _ o h => ⟨o, h, OLe.refl o, fun _ => rfl⟩
    ok := fun _ h => .inl h
    mun := fun _ h => .inl ⟨CS.live_lt (s := s) h, h, rfl⟩
    frame := fun b hb _ => hheap hb
    size := by omega
    tape := rfl
    os := rfl
    output := rfl }
  refine ⟨s', rfl, rfl, ⟨fun b hb => ?_, fun p o ho => ?_, fun p q hpq hp hq => g.inj p q hpq hp hq, fun b o ho => ?_⟩, x, .inr rfl⟩
  · rcases hb with hb | rfl
    · exact Nat.lt_of_lt_of_le (g.okb b hb) x.size
    · omega
  · have hb : ∀ (vs : Array Value) (T : TypeId), s.w.heap[(s.μ p).b]? = some (.cells vs T (0, 0)) → (s.μ p).b < s.w.heap.size := fun _ _ h => (Array.getElem?_eq_some_iff.1 h).1
    by_cases hlt : (s.μ p).b < s.w.heap.size
    · refine (g.obj p o ho).mono g x rfl (fun h1 h2 => ?_) fun vs T hb _ => (hheap (Array.getElem?_eq_some_iff.1 hb).1).trans hb
      rcases h2 with h2 | h2
      · exact h1 h2
      · omega
    · have h := g.obj p o ho
      cases o with
      | box cs => obtain ⟨_, vs, T, h2, _⟩ := h; exact absurd (hb _ _ h2) hlt
      | arr sz gg cs =>
        rcases h with h | ⟨_, _, vs, T, h2, _⟩
        · exact .inl h
        · exact absurd (hb _ _ h2) hlt
      | gone => trivial
      | dead => trivial
  · obtain ⟨h1, h2⟩ := g.glob b o ho
    exact ⟨.inl h1, (hheap (g.okb b h1)).trans h2⟩
end Lg
