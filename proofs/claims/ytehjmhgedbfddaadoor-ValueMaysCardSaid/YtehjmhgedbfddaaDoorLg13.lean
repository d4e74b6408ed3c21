import Derived.Test.YtehjmhgedbfddaaDoorLg12
set_option linter.unusedVariables false
set_option linter.unusedSimpArgs false
set_option linter.unusedSectionVars false
namespace Lg
open Go Go.RowKit
variable [GLay]

variable {P : Program} {σ : List AO} {e : Env} {o : Oper}

/-- An array object, of a new generation, in its old block, in a new one, or in none. -/
theorem Good.renew {s : CS} (g : Good s) {p sz gg : Nat} {cs cs' : List AV} (ho : s.σ[p]? = some (.arr sz gg cs)) {g' : Nat} (hg : gg < g') (m : Pl) {w' : World}
    (hsize : s.w.heap.size ≤ w'.heap.size) (htape : w'.tape = s.w.tape) (hos : w'.os = s.w.os) (hout : w'.output = s.w.output)
    (hframe : ∀ b, b < s.w.heap.size → (s.live p → b ≠ (s.μ p).b) → w'.heap[b]? = s.w.heap[b]?)
    (hm : (m.tot = 0 ∧ cs' = []) ∨ (((m.b = (s.μ p).b ∧ s.live p) ∨ (s.w.heap.size ≤ m.b ∧ m.b < w'.heap.size)) ∧ ∃ vs T, w'.heap[m.b]? = some (.cells (List.toArray vs) T (0, 0)) ∧ RepW s m vs (.arr sz g' cs'))) :
    ∃ s', s'.σ = s.σ.set p (.arr sz g' cs') ∧ s'.w = w' ∧ Good s' ∧ Ext s s' ∧ s'.μ p = m := by
  have hlt : p < s.σ.length := (List.getElem?_eq_some_iff.1 ho).1
  let s' : CS := { s with σ := s.σ.set p (.arr sz g' cs'), μ := fun q => if q = p then m else s.μ q, w := w' }
  have hother : ∀ {q : Nat}, q ≠ p → s'.σ[q]? = s.σ[q]? ∧ s'.μ q = s.μ q := fun {q} hq =>
    ⟨by show (s.σ.set p _)[q]? = _; rw [List.getElem?_set, if_neg (fun e => hq e.symm)], by show (if q = p then m else s.μ q) = _; rw [if_neg hq]⟩
  have hthis : s'.σ[p]? = some (.arr sz g' cs') ∧ s'.μ p = m := ⟨by show (s.σ.set p _)[p]? = _; simp [hlt], by show (if p = p then m else s.μ p) = _; rw [if_pos rfl]⟩
  have hlive' : ∀ {q : Nat}, q ≠ p → s'.live q → s.live q := fun {q} hq h => by
    unfold CS.live at h ⊢; rw [(hother hq).1, (hother hq).2] at h; exact h
  have hlp : s'.live p → (m.b = (s.μ p).b ∧ s.live p) ∨ (s.w.heap.size ≤ m.b ∧ m.b < w'.heap.size) := fun h => by
    unfold CS.live at h; rw [hthis.1, hthis.2] at h
    rcases hm with ⟨h0, _⟩ | ⟨h1, _⟩
    · exact absurd h0 h
    · exact h1
  have hfr : ∀ {b : Nat}, b < s.w.heap.size → (s.live p → b ≠ (s.μ p).b) → w'.heap[b]? = s.w.heap[b]? := fun h1 h2 => hframe _ h1 h2
  have x : Ext s s' := {
    objs := fun q r hr => by
      by_cases e : q = p
      · subst e
        rw [ho] at hr; cases hr
        exact ⟨_, hthis.1, .arr _ _ _ _ _ (by omega) (by omega), fun (h : gg = g') => by omega⟩
      · exact ⟨r, by rw [(hother e).1]; exact hr, OLe.refl r, fun _ => (hother e).2⟩
    ok := fun _ h => h
    mun := fun q hq => by
      by_cases e : q = p
      · subst e
        rw [hthis.2]
        rcases hlp hq with ⟨h1, h2⟩ | ⟨h1, _⟩
        · exact .inl ⟨hlt, h2, h1⟩
        · exact .inr h1
      · exact .inl ⟨CS.live_lt (hlive' e hq), hlive' e hq, by rw [(hother e).2]⟩
    frame := fun b hb hne => hfr hb fun hl e => hne p hl e.symm
    size := hsize
    tape := htape
    os := hos
    output := hout }
  refine ⟨s', rfl, rfl, ⟨fun b hb => Nat.lt_of_lt_of_le (g.okb b hb) hsize, fun q r hr => ?_, fun q q' hne h1 h2 => ?_, fun b r hr => ?_⟩, x, hthis.2⟩
  · by_cases e : q = p
    · subst e
      rw [hthis.1] at hr; cases hr
      rcases hm with ⟨h0, rfl⟩ | ⟨h1, vs, T, h2, h3⟩
      · exact .inl ⟨by rw [hthis.2]; exact h0, rfl⟩
      · refine RepW.orep (T := T) (vs := vs) ?_ (by rw [hthis.2]; exact h2) (by rw [hthis.2]; exact h3.mono g x)
        rw [hthis.2]
        rcases h1 with ⟨h1, hl⟩ | ⟨h1, _⟩
        · rw [h1]; exact (g.live_lt hl).2
        · exact fun hk => absurd (g.okb _ hk) (by omega)
    · have hr' : s.σ[q]? = some r := by rw [← (hother e).1]; exact hr
      by_cases hq : s.live q
      · obtain ⟨h1, vs1, T1, h2, h3⟩ := g.rep hr' hq
        refine RepW.orep (T := T1) (vs := vs1) (by rw [(hother e).2]; exact h1) ?_ (by rw [(hother e).2]; exact h3.mono g x)
        rw [(hother e).2]
        exact (hfr (g.live_lt hq).1 fun hl => g.inj q p e hq hl).trans h2
      · have hor := g.obj q r hr'
        unfold CS.live at hq
        rw [hr'] at hq
        cases r with
        | box cs => exact absurd trivial hq
        | arr sz1 gg1 cs1 =>
          rcases hor with hor | hor
          · exact .inl (by rw [(hother e).2]; exact hor)
          · exact absurd hor.1 hq
        | gone => trivial
        | dead => trivial
  · by_cases e : q = p
    · subst e
      rw [hthis.2, (hother (fun e => hne e.symm)).2]
      have h2' := hlive' (fun e => hne e.symm) h2
      rcases hlp h1 with ⟨h3, h4⟩ | ⟨h3, _⟩
      · rw [h3]; exact g.inj _ _ hne h4 h2'
      · have := (g.live_lt h2').1; omega
    · by_cases e' : q' = p
      · subst e'
        rw [hthis.2, (hother e).2]
        have h1' := hlive' e h1
        rcases hlp h2 with ⟨h3, h4⟩ | ⟨h3, _⟩
        · rw [h3]; exact g.inj _ _ hne h1' h4
        · have := (g.live_lt h1').1; omega
      · rw [(hother e).2, (hother e').2]; exact g.inj _ _ hne (hlive' e h1) (hlive' e' h2)
  · obtain ⟨h1, h2⟩ := g.glob b r hr
    exact ⟨h1, (hfr (g.okb b h1) fun hl e => (g.live_lt hl).2 (e ▸ h1)).trans h2⟩

/-- An array object of no block. -/
theorem Good.ghost {s : CS} (g : Good s) (sz : Nat) : ∃ s', s'.σ = s.σ ++ [.arr sz 0 []] ∧ s'.w = s.w ∧ Good s' ∧ Ext s s' := by
  let s' : CS := { s with σ := s.σ ++ [.arr sz 0 []], μ := fun p => if p = s.σ.length then ⟨0, 0, 0⟩ else s.μ p }
  have hlt : ∀ {p : Nat} {o : AO}, s.σ[p]? = some o → p < s.σ.length := fun h => (List.getElem?_eq_some_iff.1 h).1
  have hold : ∀ {p : Nat}, p < s.σ.length → s'.σ[p]? = s.σ[p]? ∧ s'.μ p = s.μ p := fun {p} h =>
    ⟨by show (s.σ ++ [_])[p]? = _; rw [List.getElem?_append_left h], by show (if p = _ then _ else _) = _; rw [if_neg (by omega)]⟩
  have hnew : s'.σ[s.σ.length]? = some (.arr sz 0 []) ∧ s'.μ s.σ.length = ⟨0, 0, 0⟩ := ⟨by show (s.σ ++ [_])[_]? = _; simp, by show (if _ = _ then _ else _) = _; rw [if_pos rfl]⟩
  have hlive : ∀ {p : Nat}, s'.live p → p < s.σ.length ∧ s.live p ∧ s'.μ p = s.μ p := fun {p} h => by
    have hp := CS.live_lt h
    have hl : s'.σ.length = s.σ.length + 1 := by show (s.σ ++ [_]).length = _; simp
    rcases Nat.lt_or_ge p s.σ.length with h1 | h1
    · refine ⟨h1, ?_, (hold h1).2⟩
      unfold CS.live at h ⊢
      rw [(hold h1).1, (hold h1).2] at h
      exact h
    · have : p = s.σ.length := by omega
      subst this
      unfold CS.live at h
      rw [hnew.1, hnew.2] at h
      exact absurd rfl h
  have x : Ext s s' := {
    objs := fun p o h => ⟨o, by rw [(hold (hlt h)).1]; exact h, OLe.refl o, fun _ => (hold (hlt h)).2⟩
    ok := fun _ h => h
    mun := fun p h => .inl ⟨(hlive h).1, (hlive h).2.1, by rw [(hlive h).2.2]⟩
    frame := fun b _ _ => rfl
    size := Nat.le_refl _
    tape := rfl
    os := rfl
    output := rfl }
  refine ⟨s', rfl, rfl, ⟨g.okb, fun p o ho => ?_, fun p q hpq hp hq => ?_, g.glob⟩, x⟩
  · rcases Nat.lt_or_ge p s.σ.length with hp | hp
    · have ho' : s.σ[p]? = some o := by rw [← (hold hp).1]; exact ho
      exact (g.obj p o ho').mono g x (hold hp).2 id fun vs T hb _ => hb
    · have hl : s'.σ.length = s.σ.length + 1 := by show (s.σ ++ [_]).length = _; simp
      have : p = s.σ.length := by have := (List.getElem?_eq_some_iff.1 ho).1; omega
      subst this
      rw [hnew.1] at ho; cases ho
      exact .inl ⟨by rw [hnew.2], rfl⟩
  · rw [(hlive hp).2.2, (hlive hq).2.2]; exact g.inj p q hpq (hlive hp).2.1 (hlive hq).2.1

theorem ArrAt.mk {s : CS} {p g sz : Nat} {cs : List AV} {R : Nat → Pl → Prop} (hσ : s.σ[p]? = some (.arr sz g cs)) (h : R sz (s.μ p)) : ArrAt s p g R := by
  unfold ArrAt; rw [hσ]; exact ⟨Nat.le_refl _, fun _ => h⟩

theorem drew_heap (w : World) : w.drew.heap = w.heap := rfl
theorem firstCells_nil {w : World} (A : Option Addr) (sz : Nat) : (Builtin.firstCells sz 0 (.slice A 0 0)).run P w = .ok #[] w := by
  cases A <;> simp [Builtin.firstCells, loadCells, loadCellsFrom]
theorem run_append_zero {w : World} {t u ty E : TypeId} {i : TypeInfo} {d : TypeDesc} {A : Option Addr} {n c : Nat} {x : Value} (hd : d = .string ∨ ∃ E', d = .slice E')
    (ht : P.underlying t = some (.slice E)) (hu : P.underlying u = some d) (hi : P.info? E = some i) (hx : (Builtin.lenOf x).run P w = .ok 0 w) (hf : (Builtin.firstCells i.size 0 x).run P w = .ok #[] w) (hn : n ≤ c) :
    (Builtin.append_ #[t, u] ty #[.slice A n c, x]).run P w = .ok (.slice A n c) w := by
  rcases hd with rfl | ⟨E', rfl⟩ <;> cases A <;> simp [Builtin.append_, run_underlying ht, run_underlying hu, Go.sizeOf, typeInfo, hi, hx, hf, hn, storeCells]

/-- append to nothing: an array of the call's own. -/
theorem op_appendNew {x y : Operand} {t u E : TypeId} {i : TypeInfo} {z : Value} {d : TypeDesc} {sz m : Nat} {cs : List AV} (ho : o.op = .call { callee := .builtin .append, args := #[x, y], argTypes := #[t, u] })
    (hd : d = .string ∨ ∃ E', d = .slice E') (ht : P.underlying t = some (.slice E)) (hu : P.underlying u = some d) (hi : P.info? E = some i) (hz : i.zero = some z) (hsz : i.size = sz) (hzs : z.cells.size = sz) (hpos : sz ≠ 0)
    (hx : opv e x = .nils ∨ opv e x = .sl true sz []) (hy : srcv σ (opv e y) = some (cs, m)) (hys : szv (opv e y) sz) (h1 : ones cs = true) (hby : m * i.bytes ≤ 140737488355328) (h63 : m ≤ 9223372036854775807) (hlen : cs.length = m * sz) :
    AOp P σ e o (.arr σ.length 0 sz 0 m) (σ ++ [.arr sz 0 cs]) := by
  intro s a hs g hv K Q hk _
  subst hs
  subst hsz
  obtain ⟨A, hA⟩ : ∃ A, a.eval x = .slice A 0 0 := by
    have hxv := hv x (by simp [ho, Op.operands, Call.operands])
    rcases hx with h | h
    · exact ⟨none, (h ▸ hxv).inv_nils⟩
    · rcases (h ▸ hxv).inv_sl with ⟨ad, h2, _⟩ | ⟨b, off, cap, vs, h2, _, _, _, _, _, hf⟩
      · exact ⟨ad, h2⟩
      · exact ⟨some ⟨b, off, none⟩, by rw [h2, hf rfl]; rfl⟩
  obtain ⟨news, hp, hl, hf⟩ := (hv y (by simp [ho, Op.operands, Call.operands])).src g hy hys
  by_cases hm : m = 0
  · subst hm
    have hcs : cs = [] := List.eq_nil_of_length_eq_zero (by simpa using hlen)
    subst hcs
    have hn := hp.inv_nil
    subst hn
    obtain ⟨s', e1, e2, g', x'⟩ := g.ghost i.size
    refine wp_value (cv := .slice A 0 0) (w' := s'.w) ?_ (hk _ _ s' ⟨rfl, e1⟩ g' x' ?_)
    · rw [e2]
      simp only [execOp, ho, resolve, invoke, builtin, Sem.run_bind, Sem.run_pure, Result.andThen_ok, List.map_toArray, List.map_cons, List.map_nil, hA]
      rw [run_append_zero hd ht hu hi hl (hf _ rfl) (Nat.le_refl _)]
      rfl
    · exact .arr _ _ _ _ _ _ rfl (.mk (cs := []) (by rw [e1]; simp) ⟨rfl, .inl ⟨A, rfl, rfl⟩⟩)
  · obtain ⟨rest, cap, hc1, hc2, hrun⟩ := run_append_new' (ty := o.type) (A := A) (sLen := 0) (sCap := 0) (olds := []) (news := news) (x := a.eval y) hd ht hu hi hz hl (hf _ rfl) (firstCells_nil A _) (by omega) (by omega) (by simpa using hby)
    obtain ⟨s', e1, e2, g', x', hμ⟩ := g.newArr (sz := i.size) (cs := cs) (vs := [] ++ news ++ rest) (by
        simp only [List.nil_append, ← hp.1, List.take_left]; exact hp) (by simp [hp.1]) E (w := s.w.drew) (Below.refl _ _).drew rfl
    refine wp_value (cv := .slice (some ⟨s.w.heap.size, 0, none⟩) m cap) (w' := s'.w) ?_ (hk _ _ s' ⟨rfl, e1⟩ g' x' ?_)
    · rw [e2]
      simp only [execOp, ho, resolve, invoke, builtin, Sem.run_bind, Sem.run_pure, Result.andThen_ok, List.map_toArray, List.map_cons, List.map_nil, hA]
      rw [hrun, Nat.zero_add]
      rfl
    · refine V.newArr (cs := cs) (by rw [e1]; simp) hμ (by omega) ?_
      simp only [List.nil_append, List.length_append, hp.1, hlen, hc2, Nat.zero_add, hzs]
      rw [← Nat.add_mul]
      exact Nat.mul_le_mul_right _ (by omega)

/-- append to an array of the call's own. -/
theorem op_appendArr {x y : Operand} {t u E : TypeId} {i : TypeInfo} {z : Value} {d : TypeDesc} {sz m p gg off len : Nat} {cs cs0 : List AV} (ho : o.op = .call { callee := .builtin .append, args := #[x, y], argTypes := #[t, u] })
    (hd : d = .string ∨ ∃ E', d = .slice E') (ht : P.underlying t = some (.slice E)) (hu : P.underlying u = some d) (hi : P.info? E = some i) (hz : i.zero = some z) (hsz : i.size = sz) (hzs : z.cells.size = sz) (hpos : sz ≠ 0)
    (hx : opv e x = .arr p gg sz off len) (hσ : σ[p]? = some (.arr sz gg cs0)) (hend : (off + len) * sz = cs0.length) (hy : srcv σ (opv e y) = some (cs, m)) (hys : szv (opv e y) sz) (h1 : ones cs = true)
    (hby : (len + m) * i.bytes ≤ 140737488355328) (h63 : len + m ≤ 9223372036854775807) (hlen : cs.length = m * sz) :
    AOp P σ e o (.arr p (gg + 1) sz 0 (len + m)) (σ.set p (.arr sz (gg + 1) (cs0.drop (off * sz) ++ cs))) := by
  intro s a hs g hv K Q hk _
  subst hs
  subst hsz
  have hplt : p < s.σ.length := (List.getElem?_eq_some_iff.1 hσ).1
  obtain ⟨news, hp, hl, hf⟩ := (hv y (by simp [ho, Op.operands, Call.operands])).src g hy hys
  have hexec : ∀ {v v' : Value} {w' : World}, a.eval x = v → (Builtin.append_ #[t, u] o.type #[v, a.eval y]).run P s.w = .ok v' w' → (execOp a.eval o).run P s.w = .ok (.value v') w' := fun {v v' w'} h2 h3 => by
    simp only [execOp, ho, resolve, invoke, builtin, Sem.run_bind, Sem.run_pure, Result.andThen_ok, List.map_toArray, List.map_cons, List.map_nil, h2]
    rw [h3]; rfl
  have hV : ∀ {s' : CS} {v : Value}, s'.σ = s.σ.set p (.arr i.size (gg + 1) (cs0.drop (off * i.size) ++ cs)) → v.oneCell' = true → ((∃ ad, v = .slice ad 0 0 ∧ len + m = 0) ∨
        ∃ cap, v = .slice (some ⟨(s'.μ p).b, (s'.μ p).base + 0 * i.size, none⟩) (len + m) cap ∧ len + m ≤ cap ∧ (s'.μ p).base + (0 + cap) * i.size ≤ (s'.μ p).tot) → V s' (.arr p (gg + 1) i.size 0 (len + m)) v := fun {s' v} h1 h2 h3 =>
    .arr _ _ _ _ _ _ h2 (.mk (cs := cs0.drop (off * i.size) ++ cs) (by rw [h1]; simp [hplt]) ⟨rfl, h3⟩)
  have hnewblock : ∀ {A : Option Addr} {cap0 : Nat} {olds : List Value}, a.eval x = .slice A len cap0 → cap0 < len + m → PW s (cs0.drop (off * i.size)) olds → (Builtin.firstCells i.size len (.slice A len cap0)).run P s.w.drew = .ok olds.toArray s.w.drew → o.wp P a s.w K Q := fun {A cap0 olds} hA hroom hpo hfo => by
    obtain ⟨rest, cap, hc1, hc2, hrun⟩ := run_append_new' (ty := o.type) (A := A) (sLen := len) (sCap := cap0) (olds := olds) (news := news) (x := a.eval y) hd ht hu hi hz hl (hf _ rfl) hfo hroom h63 hby
    have holen : olds.length = len * i.size := by
      rw [hpo.1, List.length_drop, ← hend, Nat.add_mul]; omega
    have htot : (olds ++ news ++ rest).length = cap * i.size := by
      simp only [List.length_append, holen, hp.1, hlen, hc2, hzs]
      rw [← Nat.add_mul, ← Nat.add_mul]; congr 1; omega
    have hcap : cap * i.size ≠ 0 := Nat.mul_ne_zero (by omega) hpos
    obtain ⟨s', e1, e2, g', x', hμ⟩ := g.renew hσ (g' := gg + 1) (by omega) (cs' := cs0.drop (off * i.size) ++ cs) ⟨s.w.heap.size, 0, (olds ++ news ++ rest).length⟩ (w' := s.w.drew.alloc (.cells (olds ++ news ++ rest).toArray E (0, 0)))
      (by rw [alloc_size]; exact Nat.le_succ _) rfl rfl rfl (fun b hb _ => by rw [alloc_heap, if_neg (by rw [drew_heap]; omega)]; rfl)
      (.inr ⟨.inr ⟨Nat.le_refl _, by rw [alloc_size]; exact Nat.lt_succ_self _⟩, _, E, by rw [alloc_heap]; exact if_pos rfl, by rw [htot]; exact hcap, rfl, by
        simp only [Nat.zero_add, List.length_append, hp.1, hpo.1]; omega, by
        simp only [List.drop_zero]
        have h5 : (olds ++ news).length = (cs0.drop (off * i.size) ++ cs).length := by simp only [List.length_append, hpo.1, hp.1]
        rw [← h5, List.take_left]; exact hpo.append hp⟩)
    refine wp_value (w' := s'.w) (by rw [e2]; exact hexec hA hrun) (hk _ _ s' ⟨rfl, e1⟩ g' x' (hV e1 rfl (.inr ⟨cap, ?_, hc1, ?_⟩)))
    · rw [hμ]; simp
    · rw [hμ, htot]; simp
  obtain ⟨_, ⟨A, hA, h0⟩ | ⟨cap, hA, hlc, hfit⟩⟩ := (hx ▸ hv x (by simp [ho, Op.operands, Call.operands])).inv_arr hσ
  · subst h0
    have hd0 : cs0.drop (off * i.size) = [] := List.drop_eq_nil_of_le (by rw [← hend]; simp)
    by_cases hm : m = 0
    · subst hm
      have hcs : cs = [] := List.eq_nil_of_length_eq_zero (by simpa using hlen)
      subst hcs
      have hn := hp.inv_nil
      subst hn
      obtain ⟨s', e1, e2, g', x', hμ⟩ := g.renew hσ (g' := gg + 1) (by omega) (cs' := cs0.drop (off * i.size) ++ []) ⟨0, 0, 0⟩ (w' := s.w) (Nat.le_refl _) rfl rfl rfl (fun b _ _ => rfl) (.inl ⟨rfl, by rw [hd0]; rfl⟩)
      exact wp_value (w' := s'.w) (by rw [e2]; exact hexec hA (run_append_zero hd ht hu hi hl (hf _ rfl) (Nat.le_refl _))) (hk _ _ s' ⟨rfl, e1⟩ g' x' (hV e1 rfl (.inl ⟨A, rfl, rfl⟩)))
    · exact hnewblock (olds := []) hA (by omega) (by rw [hd0]; exact .nil) (firstCells_nil A _)
  · by_cases hroom : len + m ≤ cap
    · by_cases hct : cap = 0
      · have hl0 : len = 0 := by omega
        have hm0 : m = 0 := by omega
        subst hl0; subst hm0; subst hct
        have hcs : cs = [] := List.eq_nil_of_length_eq_zero (by simpa using hlen)
        subst hcs
        have hn := hp.inv_nil
        subst hn
        have hd0 : cs0.drop (off * i.size) = [] := List.drop_eq_nil_of_le (by rw [← hend]; simp)
        obtain ⟨s', e1, e2, g', x', hμ⟩ := g.renew hσ (g' := gg + 1) (by omega) (cs' := cs0.drop (off * i.size) ++ []) ⟨0, 0, 0⟩ (w' := s.w) (Nat.le_refl _) rfl rfl rfl (fun b _ _ => rfl) (.inl ⟨rfl, by rw [hd0]; rfl⟩)
        exact wp_value (w' := s'.w) (by rw [e2]; exact hexec hA (run_append_zero hd ht hu hi hl (hf _ rfl) (Nat.le_refl _))) (hk _ _ s' ⟨rfl, e1⟩ g' x' (hV e1 rfl (.inl ⟨_, rfl, rfl⟩)))
      · have hcs1 : 0 < cap * i.size := Nat.pos_of_ne_zero (Nat.mul_ne_zero hct hpos)
        have hfit' : (s.μ p).base + off * i.size + cap * i.size ≤ (s.μ p).tot := by rw [Nat.add_mul] at hfit; omega
        have hlive : s.live p := by unfold CS.live; rw [hσ]; show (s.μ p).tot ≠ 0; omega
        obtain ⟨_, vs, T, hb, ht0, h7, h8, hpv⟩ := g.rep hσ hlive
        have hmle : len * i.size + m * i.size ≤ cap * i.size := by rw [← Nat.add_mul]; exact Nat.mul_le_mul_right _ hroom
        have hnl : news.length = m * i.size := by rw [hp.1, hlen]
        have hcl0 : cs0.length = off * i.size + len * i.size := by rw [← hend, Nat.add_mul]
        have hrun := run_append_room' (ty := o.type) (b := (s.μ p).b) (off := (s.μ p).base + off * i.size) (sLen := len) (sCap := cap) (x := a.eval y) (news := news) (cur := vs) (T := T) hd ht hu hi hl (hf _ rfl) hroom hb (by omega) (one_of_pw hp h1)
        obtain ⟨s', e1, e2, g', x', hμ⟩ := g.renew hσ (g' := gg + 1) (by omega) (cs' := cs0.drop (off * i.size) ++ cs) ⟨(s.μ p).b, (s.μ p).base + off * i.size, (s.μ p).tot⟩
          (w' := s.w.setRow (s.μ p).b (vs.take ((s.μ p).base + off * i.size + len * i.size) ++ news ++ vs.drop ((s.μ p).base + off * i.size + len * i.size + news.length)).toArray)
          (by simp) rfl rfl rfl (fun b _ hne => setRow_other _ _ _ _ (hne hlive))
          (.inr ⟨.inl ⟨rfl, hlive⟩, _, T, setRow_heap _ _ _ _ _ _ hb, ht0, by simp; omega, by simp [hlen, hcl0]; omega, by
            have h9 := (hpv.drop (off * i.size)).append hp
            have h10 : ((vs.take ((s.μ p).base + off * i.size + len * i.size) ++ news ++ vs.drop ((s.μ p).base + off * i.size + len * i.size + news.length)).drop ((s.μ p).base + off * i.size)).take (cs0.drop (off * i.size) ++ cs).length =
                ((vs.drop (s.μ p).base).take cs0.length).drop (off * i.size) ++ news := by
              apply List.ext_getElem?
              intro j
              simp only [List.getElem?_take, List.getElem?_drop, List.getElem?_append, List.length_append, List.length_take, List.length_drop, hlen, hcl0, hnl]
              by_cases c1 : j < len * i.size
              · simp only [show j < off * i.size + len * i.size - off * i.size + m * i.size by omega, if_true, show (s.μ p).base + off * i.size + j < min ((s.μ p).base + off * i.size + len * i.size) vs.length + m * i.size by omega,
                  show (s.μ p).base + off * i.size + j < min ((s.μ p).base + off * i.size + len * i.size) vs.length by omega, show (s.μ p).base + off * i.size + j < (s.μ p).base + off * i.size + len * i.size by omega,
                  show j < min (off * i.size + len * i.size) (vs.length - (s.μ p).base) - off * i.size by omega, show off * i.size + j < off * i.size + len * i.size by omega]
                congr 1; omega
              · by_cases c2 : j < len * i.size + m * i.size
                · simp only [show j < off * i.size + len * i.size - off * i.size + m * i.size by omega, if_true, show (s.μ p).base + off * i.size + j < min ((s.μ p).base + off * i.size + len * i.size) vs.length + m * i.size by omega,
                    show ¬ (s.μ p).base + off * i.size + j < min ((s.μ p).base + off * i.size + len * i.size) vs.length by omega, if_false, show ¬ j < min (off * i.size + len * i.size) (vs.length - (s.μ p).base) - off * i.size by omega]
                  congr 1; omega
                · simp only [show ¬ j < off * i.size + len * i.size - off * i.size + m * i.size by omega, if_false, show ¬ j < min (off * i.size + len * i.size) (vs.length - (s.μ p).base) - off * i.size by omega]
                  rw [List.getElem?_eq_none (by rw [hnl]; omega)]
            show PW s _ (List.take _ (List.drop ((s.μ p).base + off * i.size) _))
            rw [h10]; exact h9⟩)
        refine wp_value (w' := s'.w) (by rw [e2]; exact hexec hA hrun) (hk _ _ s' ⟨rfl, e1⟩ g' x' (hV e1 rfl (.inr ⟨cap, ?_, hroom, ?_⟩)))
        · rw [hμ]; simp
        · rw [hμ]; simp; omega
    · have hct : (s.μ p).tot ≠ 0 ∨ len * i.size = 0 := by
        rcases Nat.eq_zero_or_pos (s.μ p).tot with h | h
        · right
          have : (off + cap) * i.size = 0 := by omega
          have h6 : len * i.size ≤ (off + cap) * i.size := Nat.mul_le_mul_right _ (by omega)
          omega
        · left; omega
      rcases hct with hct | hl0
      · have hlive : s.live p := by unfold CS.live; rw [hσ]; exact hct
        obtain ⟨_, vs, T, hb, ht0, h7, h8, hpv⟩ := g.rep hσ hlive
        have hcl0 : cs0.length = off * i.size + len * i.size := by rw [← hend, Nat.add_mul]
        have hpo := hpv.drop (off * i.size)
        refine hnewblock hA (by omega) hpo (run_firstCells_some s.w.drew i.size len _ len cap _ (by simp; omega) fun j v hj => ?_)
        rw [add_none]
        rw [List.getElem?_drop, List.getElem?_take] at hj
        split at hj
        · rw [List.getElem?_drop] at hj
          show s.w.cell? _ = _
          rw [cells_get hb, Nat.add_assoc]; exact hj
        · cases hj
      · have hd0 : cs0.drop (off * i.size) = [] := List.drop_eq_nil_of_le (by rw [← hend, Nat.add_mul]; omega)
        have hl1 : len = 0 := by
          rcases Nat.mul_eq_zero.1 hl0 with h | h
          · exact h
          · exact absurd h hpos
        subst hl1
        refine hnewblock (olds := []) hA (by omega) (by rw [hd0]; exact .nil) ?_
        simp [Builtin.firstCells, loadCells, loadCellsFrom]
end Lg
