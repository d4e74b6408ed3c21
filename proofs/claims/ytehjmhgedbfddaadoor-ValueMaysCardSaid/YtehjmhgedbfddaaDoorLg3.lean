import Derived.Test.YtehjmhgedbfddaaDoorLg2
set_option linter.unusedVariables false
set_option linter.unusedSimpArgs false
set_option linter.unusedSectionVars false
namespace Lg
open Go Go.RowKit
variable [GLay]

/-- What a live object's block holds. -/
def RepW (s : CS) (m : Pl) (vs : List Value) : AO → Prop
  | .box cs => PW s cs vs
  | .arr _ _ cs => m.tot ≠ 0 ∧ vs.length = m.tot ∧ m.base + cs.length ≤ m.tot ∧ PW s cs ((vs.drop m.base).take cs.length)
  | _ => False

theorem Good.rep {s : CS} (g : Good s) {p : Nat} {o : AO} (h : s.σ[p]? = some o) (hl : s.live p) :
    ¬ s.ok (s.μ p).b ∧ ∃ vs T, s.w.heap[(s.μ p).b]? = some (.cells (List.toArray vs) T (0, 0)) ∧ RepW s (s.μ p) vs o := by
  have ho := g.obj p o h
  unfold CS.live at hl
  rw [h] at hl
  cases o with
  | box cs => exact ho
  | arr sz gg cs =>
    rcases ho with ⟨h0, _⟩ | ⟨h0, h1, vs, T, h2, h3, h4, h5⟩
    · exact absurd h0 hl
    · exact ⟨h1, vs, T, h2, h0, h3, h4, h5⟩
  | gone => exact hl.elim
  | dead => exact hl.elim

theorem RepW.orep {s : CS} {p : Nat} {o : AO} {vs : List Value} {T : TypeId} (h1 : ¬ s.ok (s.μ p).b) (h2 : s.w.heap[(s.μ p).b]? = some (.cells vs.toArray T (0, 0)))
    (h : RepW s (s.μ p) vs o) : ORep s p o := by
  cases o with
  | box cs => exact ⟨h1, vs, T, h2, h⟩
  | arr sz gg cs => exact .inr ⟨h.1, h1, vs, T, h2, h.2⟩
  | gone => trivial
  | dead => trivial

theorem RepW.mono {s s' : CS} (g : Good s) (x : Ext s s') {m : Pl} {vs : List Value} {o : AO} (h : RepW s m vs o) : RepW s' m vs o := by
  cases o with
  | box cs => exact PW.mono g x h
  | arr sz gg cs => exact ⟨h.1, h.2.1, h.2.2.1, PW.mono g x h.2.2.2⟩
  | gone => exact h
  | dead => exact h

/-- An object in place of another one, in the same block. -/
theorem Good.setObj {s : CS} (g : Good s) {p : Nat} {o o' : AO} (ho : s.σ[p]? = some o) (hp : s.live p) (hle : OLe o o') (hst : Stay o o') {vs : List Value}
    (h : RepW s (s.μ p) vs o') : ∃ s', s'.σ = s.σ.set p o' ∧ s'.w = s.w.setRow (s.μ p).b vs.toArray ∧ Good s' ∧ Ext s s' ∧ s'.μ = s.μ ∧ s'.ok = s.ok := by
  obtain ⟨hnok, us, T, hb, _⟩ := g.rep ho hp
  have hlt : p < s.σ.length := (List.getElem?_eq_some_iff.1 ho).1
  let s' : CS := { s with σ := s.σ.set p o', w := s.w.setRow (s.μ p).b vs.toArray }
  have hother : ∀ {q : Nat}, q ≠ p → s'.σ[q]? = s.σ[q]? := fun {q} hq => by
    show (s.σ.set p o')[q]? = _; rw [List.getElem?_set, if_neg (fun e => hq e.symm)]
  have hthis : s'.σ[p]? = some o' := by show (s.σ.set p o')[p]? = _; simp [hlt]
  have hlive' : ∀ {q : Nat}, s'.live q → s.live q := fun {q} hq => by
    by_cases e : q = p
    · subst e; exact hp
    · unfold CS.live at hq ⊢; rw [hother e] at hq; exact hq
  have x : Ext s s' := {
    objs := fun q r hr => by
      by_cases e : q = p
      · subst e
        rw [ho] at hr; cases hr
        exact ⟨o', hthis, hle, fun _ => rfl⟩
      · exact ⟨r, by rw [hother e]; exact hr, OLe.refl r, fun _ => rfl⟩
    ok := fun _ h => h
    mun := fun q hq => .inl ⟨CS.live_lt (hlive' hq), hlive' hq, rfl⟩
    frame := fun b _ hne => setRow_other _ _ _ _ (fun e => hne p hp e.symm)
    size := by show _ ≤ (s.w.setRow _ _).heap.size; simp
    tape := rfl
    os := rfl
    output := rfl }
  refine ⟨s', rfl, rfl, ⟨fun b hb => Nat.lt_of_lt_of_le (g.okb b hb) x.size, fun q r hr => ?_, fun q q' hne h1 h2 => g.inj q q' hne (hlive' h1) (hlive' h2), fun b r hr => ?_⟩, x, rfl, rfl⟩
  · by_cases e : q = p
    · subst e
      rw [hthis] at hr; cases hr
      exact RepW.orep (T := T) (vs := vs) hnok (setRow_heap _ _ _ _ _ _ hb) (h.mono g x)
    · have hr' : s.σ[q]? = some r := by rw [← hother e]; exact hr
      by_cases hq : s.live q
      · obtain ⟨h1, vs1, T1, h2, h3⟩ := g.rep hr' hq
        refine RepW.orep (T := T1) (vs := vs1) h1 ?_ (h3.mono g x)
        show (s.w.setRow _ _).heap[_]? = _
        rw [setRow_other _ _ _ _ (g.inj q p e hq hp)]
        exact h2
      · have hor := g.obj q r hr'
        unfold CS.live at hq
        rw [hr'] at hq
        cases r with
        | box cs => exact absurd trivial hq
        | arr sz gg cs =>
          rcases hor with hor | hor
          · exact .inl hor
          · exact absurd hor.1 hq
        | gone => trivial
        | dead => trivial
  · obtain ⟨h1, h2⟩ := g.glob b r hr
    exact ⟨h1, (setRow_other _ _ _ _ (fun e : b = (s.μ p).b => hnok (e ▸ h1))).trans h2⟩

/-- An object that is no more: its block is never written again. -/
theorem Good.freeze {s : CS} (g : Good s) {p : Nat} {o o' : AO} (ho : s.σ[p]? = some o) (hp : s.live p) (h' : (o.isBox = true ∧ o' = .gone) ∨ (o.isBox = false ∧ o' = .dead)) :
    ∃ s', s'.σ = s.σ.set p o' ∧ s'.w = s.w ∧ Good s' ∧ Ext s s' ∧ s'.ok (s.μ p).b ∧ s'.μ = s.μ := by
  have hlt : p < s.σ.length := (List.getElem?_eq_some_iff.1 ho).1
  have hle : OLe o o' := by
    unfold CS.live at hp; rw [ho] at hp
    rcases h' with ⟨h1, rfl⟩ | ⟨h1, rfl⟩ <;> cases o <;> simp_all [AO.isBox]
    · exact .boxGone _
    · exact .arrDead _ _ _
  let s' : CS := { s with σ := s.σ.set p o', ok := fun b => s.ok b ∨ b = (s.μ p).b }
  have hother : ∀ {q : Nat}, q ≠ p → s'.σ[q]? = s.σ[q]? := fun {q} hq => by
    show (s.σ.set p o')[q]? = _; rw [List.getElem?_set, if_neg (fun e => hq e.symm)]
  have hthis : s'.σ[p]? = some o' := by show (s.σ.set p o')[p]? = _; simp [hlt]
  have hlive' : ∀ {q : Nat}, s'.live q → s.live q ∧ q ≠ p := fun {q} hq => by
    by_cases e : q = p
    · subst e
      unfold CS.live at hq
      rw [hthis] at hq
      rcases h' with ⟨_, rfl⟩ | ⟨_, rfl⟩ <;> exact hq.elim
    · unfold CS.live at hq ⊢; rw [hother e] at hq; exact ⟨hq, e⟩
  have x : Ext s s' := {
    objs := fun q r hr => by
      by_cases e : q = p
      · subst e
        rw [ho] at hr; cases hr
        exact ⟨o', hthis, hle, fun _ => rfl⟩
      · exact ⟨r, by rw [hother e]; exact hr, OLe.refl r, fun _ => rfl⟩
    ok := fun _ h => .inl h
    mun := fun q hq => .inl ⟨CS.live_lt (hlive' hq).1, (hlive' hq).1, rfl⟩
    frame := fun b _ _ => rfl
    size := Nat.le_refl _
    tape := rfl
    os := rfl
    output := rfl }
  refine ⟨s', rfl, rfl, ⟨fun b hb => ?_, fun q r hr => ?_, fun q q' hne h1 h2 => g.inj q q' hne (hlive' h1).1 (hlive' h2).1, fun b r hr => ?_⟩, x, .inr rfl, rfl⟩
  · rcases hb with hb | rfl
    · exact g.okb b hb
    · exact (g.live_lt hp).1
  · by_cases e : q = p
    · subst e
      rw [hthis] at hr; cases hr
      rcases h' with ⟨_, rfl⟩ | ⟨_, rfl⟩ <;> trivial
    · have hr' : s.σ[q]? = some r := by rw [← hother e]; exact hr
      by_cases hq : s.live q
      · obtain ⟨h1, vs1, T1, h2, h3⟩ := g.rep hr' hq
        refine RepW.orep (T := T1) (vs := vs1) (fun hk => ?_) h2 (h3.mono g x)
        rcases hk with hk | hk
        · exact h1 hk
        · exact g.inj q p e hq hp hk
      · have hor := g.obj q r hr'
        unfold CS.live at hq
        rw [hr'] at hq
        cases r with
        | box cs => exact absurd trivial hq
        | arr sz gg cs =>
          rcases hor with hor | hor
          · exact .inl hor
          · exact absurd hor.1 hq
        | gone => trivial
        | dead => trivial
  · obtain ⟨h1, h2⟩ := g.glob b r hr
    exact ⟨.inl h1, h2⟩

/-- An array object of no block is no more. -/
theorem Good.kill {s : CS} (g : Good s) {p sz gg : Nat} {cs : List AV} (ho : s.σ[p]? = some (.arr sz gg cs)) (hp : ¬ s.live p) :
    ∃ s', s'.σ = s.σ.set p .dead ∧ s'.w = s.w ∧ Good s' ∧ Ext s s' := by
  have hlt : p < s.σ.length := (List.getElem?_eq_some_iff.1 ho).1
  let s' : CS := { s with σ := s.σ.set p .dead }
  have hother : ∀ {q : Nat}, q ≠ p → s'.σ[q]? = s.σ[q]? := fun {q} hq => by
    show (s.σ.set p _)[q]? = _; rw [List.getElem?_set, if_neg (fun e => hq e.symm)]
  have hthis : s'.σ[p]? = some .dead := by show (s.σ.set p _)[p]? = _; simp [hlt]
  have hlive' : ∀ {q : Nat}, s'.live q → s.live q ∧ q ≠ p := fun {q} hq => by
    by_cases e : q = p
    · subst e
      unfold CS.live at hq
      rw [hthis] at hq
      exact hq.elim
    · unfold CS.live at hq ⊢; rw [hother e] at hq; exact ⟨hq, e⟩
  have x : Ext s s' := {
    objs := fun q r hr => by
      by_cases e : q = p
      · subst e
        rw [ho] at hr; cases hr
        exact ⟨.dead, hthis, .arrDead _ _ _, fun h => h.elim⟩
      · exact ⟨r, by rw [hother e]; exact hr, OLe.refl r, fun _ => rfl⟩
    ok := fun _ h => h
    mun := fun q hq => .inl ⟨CS.live_lt (hlive' hq).1, (hlive' hq).1, rfl⟩
    frame := fun b _ _ => rfl
    size := Nat.le_refl _
    tape := rfl
    os := rfl
    output := rfl }
  refine ⟨s', rfl, rfl, ⟨g.okb, fun q r hr => ?_, fun q q' hne h1 h2 => g.inj q q' hne (hlive' h1).1 (hlive' h2).1, g.glob⟩, x⟩
  by_cases e : q = p
  · subst e
    rw [hthis] at hr; cases hr
    trivial
  · have hr' : s.σ[q]? = some r := by rw [← hother e]; exact hr
    exact (g.obj q r hr').mono g x rfl id fun vs T hb _ => hb

/-! ### Leaving: the call's own objects are forgotten -/
theorem V.lt {s : CS} {a : AV} {v : Value} (h : V s a v) : a.lt s.σ.length := by
  have harr : ∀ {p g : Nat} {R : Nat → Pl → Prop}, ArrAt s p g R → p < s.σ.length := fun {p g R} h => by
    unfold ArrAt at h
    cases e : s.σ[p]? with
    | none => rw [e] at h; exact h.elim
    | some o => exact (List.getElem?_eq_some_iff.1 e).1
  have hl : ∀ {cs : List AV} {vs : List Value}, vs.length = cs.length → (∀ (i : Nat) (c : AV) (v : Value), cs[i]? = some c → vs[i]? = some v → c.lt s.σ.length) → AV.ltL s.σ.length cs := fun {cs vs} hl h => by
    rw [AV.ltL_iff]
    intro a ha
    obtain ⟨i, hi, rfl⟩ := List.getElem_of_mem ha
    exact h i _ (vs[i]'(by omega)) (List.getElem?_eq_getElem hi) (List.getElem?_eq_getElem _)
  induction h with
  | ptr p off o h hb => exact (List.getElem?_eq_some_iff.1 h).1
  | pel p g i v h1 h => exact harr h
  | arr p g sz off len v h1 h => exact harr h
  | pp cs b off vs hok hl' hc hv ih => exact hl hl' ih
  | sl full sz es b off cap vs hok hsz hl' hc hv hcap hf ih =>
    have h := hl hl' ih
    rw [AV.ltL_iff] at h
    show AV.ltLL _ es
    rw [AV.ltLL_iff]
    intro e he
    rw [AV.ltL_iff]
    intro a ha
    exact h a (List.mem_flatten.2 ⟨e, he, ha⟩)
  | func fn f c vf vc hf hc h1 h2 ih1 ih2 => exact ⟨hl hf ih1, hl hc ih2⟩
  | iface T a v h ih => exact ih
  | agg cs vs hl' hv ih => exact hl hl' ih
  | tup cs vs hl' hv ih => exact hl hl' ih
  | _ => trivial

def CS.cut (s : CS) (n : Nat) : CS := { s with σ := s.σ.take n }

theorem V.cut {s : CS} {n : Nat} {a : AV} {v : Value} (h : V s a v) (ha : a.lt n) : V (s.cut n) a v := by
  have hget : ∀ {p : Nat}, p < n → (s.cut n).σ[p]? = s.σ[p]? := fun {p} hp => by show (s.σ.take n)[p]? = _; rw [List.getElem?_take, if_pos hp]
  have harr : ∀ {p g : Nat} {R : Nat → Pl → Prop}, p < n → ArrAt s p g R → ArrAt (s.cut n) p g R := fun {p g R} hp h => by
    unfold ArrAt at h ⊢; rw [hget hp]; exact h
  have hm : ∀ {cs : List AV} {i : Nat} {c : AV}, AV.ltL n cs → cs[i]? = some c → c.lt n := fun {cs i c} h e => by
    rw [AV.ltL_iff] at h; exact h c (List.mem_of_getElem? e)
  induction h with
  | any v => exact .any v
  | bool b => exact .bool b
  | int k n => exact .int k n
  | str x => exact .str x
  | nilp => exact .nilp
  | ptr p off o h hb => exact .ptr p off o ((hget ha).trans h) hb
  | pel p g i v h1 h => exact .pel p g i v h1 (harr ha h)
  | pp cs b off vs hok hl hc hv ih => exact .pp cs b off vs hok hl hc fun i c v h1 h2 => ih i c v h1 h2 (hm ha h1)
  | nils => exact .nils
  | sl full sz es b off cap vs hok hsz hl hc hv hcap hf ih =>
    refine .sl full sz es b off cap vs hok hsz hl hc (fun i c v h1 h2 => ih i c v h1 h2 ?_) hcap hf
    have ha' : AV.ltLL n es := ha
    rw [AV.ltLL_iff] at ha'
    obtain ⟨e, he, hce⟩ := List.mem_flatten.1 (List.mem_of_getElem? h1)
    have := ha' e he
    rw [AV.ltL_iff] at this
    exact this c hce
  | sl0 full sz ad => exact .sl0 full sz ad
  | arr p g sz off len v h1 h => exact .arr p g sz off len v h1 (harr ha h)
  | nilm => exact .nilm
  | func fn f c vf vc hf hc h1 h2 ih1 ih2 => exact .func fn f c vf vc hf hc (fun i a v e1 e2 => ih1 i a v e1 e2 (hm ha.1 e1)) (fun i a v e1 e2 => ih2 i a v e1 e2 (hm ha.2 e1))
  | nilf => exact .nilf
  | iface T a v h ih => exact .iface T a v (ih ha)
  | nili => exact .nili
  | agg cs vs hl hv ih => exact .agg cs vs hl fun i c v h1 h2 => ih i c v h1 h2 (hm ha h1)
  | tup cs vs hl hv ih => exact .tup cs vs hl fun i c v h1 h2 => ih i c v h1 h2 (hm ha h1)

/-- The state without the objects from n on: nothing that stays names them. -/
theorem Good.cut {s : CS} (g : Good s) {n : Nat} (h : ∀ p o, p < n → s.σ[p]? = some o → AV.ltL n o.cells) : Good (s.cut n) := by
  have hget : ∀ {p : Nat} {o : AO}, (s.cut n).σ[p]? = some o → p < n ∧ s.σ[p]? = some o := fun {p o} hp => by
    change (s.σ.take n)[p]? = _ at hp; rw [List.getElem?_take] at hp
    split at hp
    · exact ⟨by assumption, hp⟩
    · cases hp
  have hlive : ∀ {p : Nat}, (s.cut n).live p → s.live p := fun {p} hp => by
    unfold CS.live at hp ⊢
    cases e : (s.cut n).σ[p]? with
    | none => rw [e] at hp; exact hp.elim
    | some o => rw [e] at hp; rw [(hget e).2]; exact hp
  have hpw : ∀ {cs : List AV} {vs : List Value}, AV.ltL n cs → PW s cs vs → PW (s.cut n) cs vs := fun {cs vs} h1 h2 =>
    ⟨h2.1, fun i c v e1 e2 => (h2.2 i c v e1 e2).cut (by rw [AV.ltL_iff] at h1; exact h1 c (List.mem_of_getElem? e1))⟩
  refine ⟨g.okb, fun p o ho => ?_, fun p q hne h1 h2 => g.inj p q hne (hlive h1) (hlive h2), g.glob⟩
  obtain ⟨hp, ho'⟩ := hget ho
  have hor := g.obj p o ho'
  have hc := h p o hp ho'
  cases o with
  | box cs => obtain ⟨h1, vs, T, h2, h3⟩ := hor; exact ⟨h1, vs, T, h2, hpw hc h3⟩
  | arr sz gg cs =>
    rcases hor with hor | ⟨h0, h1, vs, T, h2, h3, h4, h5⟩
    · exact .inl hor
    · exact .inr ⟨h0, h1, vs, T, h2, h3, h4, hpw hc h5⟩
  | gone => trivial
  | dead => trivial
theorem Ext.cut {s0 s : CS} (x : Ext s0 s) : Ext s0 (s.cut s0.σ.length) where
  objs := fun p o h => by
    obtain ⟨o', h', r⟩ := x.objs p o h
    exact ⟨o', by show (s.σ.take _)[p]? = _; rw [List.getElem?_take, if_pos (List.getElem?_eq_some_iff.1 h).1]; exact h', r⟩
  ok := x.ok
  mun := fun p h => x.mun p (by
    unfold CS.live at h ⊢
    change (match (s.σ.take s0.σ.length)[p]? with | some (.box _) => True | some (.arr _ _ _) => (s.μ p).tot ≠ 0 | _ => False) at h
    rw [List.getElem?_take] at h
    split at h <;> rename_i e <;> split at e <;> simp_all)
  frame := x.frame
  size := x.size
  tape := x.tape
  os := x.os
  output := x.output
end Lg
