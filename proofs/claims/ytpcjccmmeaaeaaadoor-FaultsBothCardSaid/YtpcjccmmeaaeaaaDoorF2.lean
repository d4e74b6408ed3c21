/- A part of the proof of Any faults, rising; any two lists of them, one; any, under any name: as the document has it.: Lg13 Lg14 Lg15 Lg16 Lg17 Lg18 Lg19 Lg20 Lg21 Lg22 Lg23 Lu8. -/
import Derived.Test.YtpcjccmmeaaeaaaDoorF1
import Derived.Deep.LoopGhost
import Derived.ChangeKeysEq
import Derived.Laws.IdiomStrings
import Derived.Laws.BytesArg
import Derived.Laws.Pointers
import Derived.Shelf.Unicode.DecodeSlow
set_option linter.unusedVariables false
set_option linter.unusedSimpArgs false
set_option linter.unusedSectionVars false
namespace Lg
open Go Go.RowKit
variable [GLay]

variable {P : Program} {σ : List AO} {e : Env} {o : Oper}

theorem Good.renew {s : CS} (g : Good s) {p sz gg : Nat} {cs cs' : List AV} (ho : s.σ[p]? = some (.arr sz gg cs)) {g' : Nat} (hg : gg < g') (m : Pl) {w' : World}
    (hsize : s.w.heap.size ≤ w'.heap.size) (htape : w'.tape = s.w.tape) (hos : w'.os = s.w.os) (hout : w'.output = s.w.output)
    (hframe : ∀ b, b < s.w.heap.size → (s.live p → b ≠ (s.μ p).b) → w'.heap[b]? = s.w.heap[b]?)
    (hm : (m.tot = 0 ∧ cs' = []) ∨ (((m.b = (s.μ p).b ∧ s.live p) ∨ (s.w.heap.size ≤ m.b ∧ m.b < w'.heap.size)) ∧ ∃ vs T, w'.heap[m.b]? = some (.cells (List.toArray vs) T (0, 0)) ∧ RepW s m vs T (.arr sz g' cs'))) :
    ∃ s', s'.σ = s.σ.set p (.arr sz g' cs') ∧ s'.w = w' ∧ Good s' ∧ Ext s s' ∧ s'.μ p = m := by
  have hlt : p < s.σ.length := (List.getElem?_eq_some_iff.1 ho).1
  let s' : CS := { s with σ := s.σ.set p (.arr sz g' cs'), μ := fun q => if q = p then m else s.μ q, w := w' }
  have hother : ∀ {q : Nat}, q ≠ p → s'.σ[q]? = s.σ[q]? ∧ s'.μ q = s.μ q := fun {q} hq =>
    ⟨by show (s.σ.set p _)[q]? = _; rw [List.getElem?_set, if_neg (fun e => hq e.symm)], by show (if q = p then m else s.μ q) = _; rw [if_neg hq]⟩
  have hthis : s'.σ[p]? = some (.arr sz g' cs') ∧ s'.μ p = m := ⟨by show (s.σ.set p _)[p]? = _; simp [hlt], by show (if p = p then m else s.μ p) = _; rw [if_pos rfl]⟩
  have hlive' : ∀ {q : Nat}, q ≠ p → s'.live q → s.live q := fun {q} hq h => by
    unfold CS.live at h ⊢; rw [(hother hq).1, (hother hq).2] at h; exact h
  have hlp : s'.live p → (m.b = (s.μ p).b ∧ s.live p) ∨ (s.w.heap.size ≤ m.b ∧ m.b < w'.heap.size) := fun h => by
    unfold CS.live at h; rw [hthis.1, hthis.2] at h
    rcases hm with ⟨h0, _⟩ | ⟨h1, _⟩
    · exact absurd h0 h
    · exact h1
  have hfr : ∀ {b : Nat}, b < s.w.heap.size → (s.live p → b ≠ (s.μ p).b) → w'.heap[b]? = s.w.heap[b]? := fun h1 h2 => hframe _ h1 h2
  have x : Ext s s' := {
    objs := fun q r hr => by
      by_cases e : q = p
      · subst e
        rw [ho] at hr; cases hr
        exact ⟨_, hthis.1, .arr _ _ _ _ _ (by omega) (by omega), fun (h : gg = g') => by omega⟩
      · exact ⟨r, by rw [(hother e).1]; exact hr, OLe.refl r, fun _ => (hother e).2⟩
    ok := fun _ h => h
    okn := fun _ h => .inl h
    mun := fun q hq => by
      by_cases e : q = p
      · subst e
        rw [hthis.2]
        rcases hlp hq with ⟨h1, h2⟩ | ⟨h1, _⟩
        · exact .inl ⟨hlt, h2, h1⟩
        · exact .inr h1
      · exact .inl ⟨CS.live_lt (hlive' e hq), hlive' e hq, by rw [(hother e).2]⟩
    frame := fun b hb hne => hfr hb fun hl e => hne p hl e.symm
    size := hsize
    shp := fun q cs cs' z h1 _ h3 => by
      have e : q ≠ p := fun e => by subst e; rw [ho] at h1; cases h1
      have hq : s.live q := by unfold CS.live; rw [h1]; trivial
      rw [(hother e).2]
      exact (shape_eq (hfr (shape_some h3) fun hl => g.inj q p e hq hl)).trans h3
    tape := htape
    os := hos
    output := hout }
  refine ⟨s', rfl, rfl, ⟨fun b hb => Nat.lt_of_lt_of_le (g.okb b hb) hsize, fun q r hr => ?_, fun q q' hne h1 h2 => ?_, fun b r hr => ?_⟩, x, hthis.2⟩
  · by_cases e : q = p
    · subst e
      rw [hthis.1] at hr; cases hr
      rcases hm with ⟨h0, rfl⟩ | ⟨h1, vs, T, h2, h3⟩
      · exact .inl ⟨by rw [hthis.2]; exact h0, rfl⟩
      · refine RepW.orep (T := T) (vs := vs) ?_ (by rw [hthis.2]; exact h2) (by rw [hthis.2]; exact h3.mono g x)
        rw [hthis.2]
        rcases h1 with ⟨h1, hl⟩ | ⟨h1, _⟩
        · rw [h1]; exact (g.live_lt hl).2
        · exact fun hk => absurd (g.okb _ hk) (by omega)
    · have hr' : s.σ[q]? = some r := by rw [← (hother e).1]; exact hr
      exact ORep.keep g x hr' (hother e).2 (fun hq => (g.live_lt hq).2) (fun hq => hfr (g.live_lt hq).1 fun hl => g.inj q p e hq hl)
  · by_cases e : q = p
    · subst e
      rw [hthis.2, (hother (fun e => hne e.symm)).2]
      have h2' := hlive' (fun e => hne e.symm) h2
      rcases hlp h1 with ⟨h3, h4⟩ | ⟨h3, _⟩
      · rw [h3]; exact g.inj _ _ hne h4 h2'
      · have := (g.live_lt h2').1; omega
    · by_cases e' : q' = p
      · subst e'
        rw [hthis.2, (hother e).2]
        have h1' := hlive' e h1
        rcases hlp h2 with ⟨h3, h4⟩ | ⟨h3, _⟩
        · rw [h3]; exact g.inj _ _ hne h1' h4
        · have := (g.live_lt h1').1; omega
      · rw [(hother e).2, (hother e').2]; exact g.inj _ _ hne (hlive' e h1) (hlive' e' h2)
  · obtain ⟨h1, h2⟩ := g.glob b r hr
    exact ⟨h1, (hfr (g.okb b h1) fun hl e => (g.live_lt hl).2 (e ▸ h1)).trans h2⟩

theorem Good.ghost {s : CS} (g : Good s) (sz : Nat) : ∃ s', s'.σ = s.σ ++ [.arr sz 0 []] ∧ s'.w = s.w ∧ Good s' ∧ Ext s s' := by
  let s' : CS := { s with σ := s.σ ++ [.arr sz 0 []], μ := fun p => if p = s.σ.length then ⟨0, 0, 0⟩ else s.μ p }
  have hlt : ∀ {p : Nat} {o : AO}, s.σ[p]? = some o → p < s.σ.length := fun h => (List.getElem?_eq_some_iff.1 h).1
  have hold : ∀ {p : Nat}, p < s.σ.length → s'.σ[p]? = s.σ[p]? ∧ s'.μ p = s.μ p := fun {p} h =>
    ⟨by show (s.σ ++ [_])[p]? = _; rw [List.getElem?_append_left h], by show (if p = _ then _ else _) = _; rw [if_neg (by omega)]⟩
  have hnew : s'.σ[s.σ.length]? = some (.arr sz 0 []) ∧ s'.μ s.σ.length = ⟨0, 0, 0⟩ := ⟨by show (s.σ ++ [_])[_]? = _; simp, by show (if _ = _ then _ else _) = _; rw [if_pos rfl]⟩
  have hlive : ∀ {p : Nat}, s'.live p → p < s.σ.length ∧ s.live p ∧ s'.μ p = s.μ p := fun {p} h => by
    have hp := CS.live_lt h
    have hl : s'.σ.length = s.σ.length + 1 := by show (s.σ ++ [_]).length = _; simp
    rcases Nat.lt_or_ge p s.σ.length with h1 | h1
    · refine ⟨h1, ?_, (hold h1).2⟩
      unfold CS.live at h ⊢
      rw [(hold h1).1, (hold h1).2] at h
      exact h
    · have : p = s.σ.length := by omega
      subst this
      unfold CS.live at h
      rw [hnew.1, hnew.2] at h
      exact absurd rfl h
  have x : Ext s s' := {
    objs := fun p o h => ⟨o, by rw [(hold (hlt h)).1]; exact h, OLe.refl o, fun _ => (hold (hlt h)).2⟩
    ok := fun _ h => h
    okn := fun _ h => .inl h
    mun := fun p h => .inl ⟨(hlive h).1, (hlive h).2.1, by rw [(hlive h).2.2]⟩
    frame := fun b _ _ => rfl
    size := Nat.le_refl _
    shp := fun p cs cs' z h1 _ h3 => by
      rw [(hold (hlt h1)).2]; exact h3
    tape := rfl
    os := rfl
    output := rfl }
  refine ⟨s', rfl, rfl, ⟨g.okb, fun p o ho => ?_, fun p q hpq hp hq => ?_, g.glob⟩, x⟩
  · rcases Nat.lt_or_ge p s.σ.length with hp | hp
    · have ho' : s.σ[p]? = some o := by rw [← (hold hp).1]; exact ho
      exact (g.obj p o ho').mono g x (hold hp).2 id fun ob hb _ => hb
    · have hl : s'.σ.length = s.σ.length + 1 := by show (s.σ ++ [_]).length = _; simp
      have : p = s.σ.length := by have := (List.getElem?_eq_some_iff.1 ho).1; omega
      subst this
      rw [hnew.1] at ho; cases ho
      exact .inl ⟨by rw [hnew.2], rfl⟩
  · rw [(hlive hp).2.2, (hlive hq).2.2]; exact g.inj p q hpq (hlive hp).2.1 (hlive hq).2.1

theorem ArrAt.mk {s : CS} {p g sz : Nat} {cs : List AV} {R : Nat → Pl → Prop} (hσ : s.σ[p]? = some (.arr sz g cs)) (h : R sz (s.μ p)) : ArrAt s p g R := by
  unfold ArrAt; rw [hσ]; exact ⟨Nat.le_refl _, fun _ => h⟩

theorem drew_heap (w : World) : w.drew.heap = w.heap := rfl
theorem firstCells_nil {w : World} (A : Option Addr) (sz : Nat) : (Builtin.firstCells sz 0 (.slice A 0 0)).run P w = .ok #[] w := by
  cases A <;> simp [Builtin.firstCells, loadCells, loadCellsFrom]
theorem run_append_zero {w : World} {t u ty E : TypeId} {i : TypeInfo} {d : TypeDesc} {A : Option Addr} {n c : Nat} {x : Value} (hd : d = .string ∨ ∃ E', d = .slice E')
    (ht : P.underlying t = some (.slice E)) (hu : P.underlying u = some d) (hi : P.info? E = some i) (hx : (Builtin.lenOf x).run P w = .ok 0 w) (hf : (Builtin.firstCells i.size 0 x).run P w = .ok #[] w) (hn : n ≤ c) :
    (Builtin.append_ #[t, u] ty #[.slice A n c, x]).run P w = .ok (.slice A n c) w := by
  rcases hd with rfl | ⟨E', rfl⟩ <;> cases A <;> simp [Builtin.append_, run_underlying ht, run_underlying hu, Go.sizeOf, typeInfo, hi, hx, hf, hn, storeCells]

theorem op_appendNew {x y : Operand} {t u E : TypeId} {i : TypeInfo} {z : Value} {d : TypeDesc} {sz m : Nat} {cs : List AV} (ho : o.op = .call { callee := .builtin .append, args := #[x, y], argTypes := #[t, u] })
    (hd : d = .string ∨ ∃ E', d = .slice E') (ht : P.underlying t = some (.slice E)) (hu : P.underlying u = some d) (hi : P.info? E = some i) (hz : i.zero = some z) (hsz : i.size = sz) (hzs : z.cells.size = sz) (hpos : sz ≠ 0)
    (hx : opv e x = .nils ∨ opv e x = .sl true sz []) (hy : srcv σ (opv e y) = some (cs, m)) (hys : szv (opv e y) sz) (h1 : ones cs = true) (hby : m * i.bytes ≤ 140737488355328) (h63 : m ≤ 9223372036854775807) (hlen : cs.length = m * sz) :
    AOp P σ e o (.arr σ.length 0 sz 0 m) (σ ++ [.arr sz 0 cs]) := by
  intro s a hs g hv K Q hk _
  subst hs
  subst hsz
  obtain ⟨A, hA⟩ : ∃ A, a.eval x = .slice A 0 0 := by
    have hxv := hv x (by simp [ho, Op.operands, Call.operands])
    rcases hx with h | h
    · exact ⟨none, (h ▸ hxv).inv_nils⟩
    · rcases (h ▸ hxv).inv_sl with ⟨ad, h2, _⟩ | ⟨b, off, cap, vs, h2, _, _, _, _, _, hf⟩
      · exact ⟨ad, h2⟩
      · exact ⟨some ⟨b, off, none⟩, by rw [h2, hf rfl]; rfl⟩
  obtain ⟨news, hp, hl, hf⟩ := (hv y (by simp [ho, Op.operands, Call.operands])).src g hy hys
  by_cases hm : m = 0
  · subst hm
    have hcs : cs = [] := List.eq_nil_of_length_eq_zero (by simpa using hlen)
    subst hcs
    have hn := hp.inv_nil
    subst hn
    obtain ⟨s', e1, e2, g', x'⟩ := g.ghost i.size
    refine wp_value (cv := .slice A 0 0) (w' := s'.w) ?_ (hk _ _ s' ⟨rfl, e1⟩ g' x' ?_)
    · rw [e2]
      simp only [execOp, ho, resolve, invoke, builtin, Sem.run_bind, Sem.run_pure, Result.andThen_ok, List.map_toArray, List.map_cons, List.map_nil, hA]
      rw [run_append_zero hd ht hu hi hl (hf _ rfl) (Nat.le_refl _)]
      rfl
    · exact .arr _ _ _ _ _ _ rfl (.mk (cs := []) (by rw [e1]; simp) ⟨rfl, .inl ⟨A, rfl, rfl⟩⟩)
  · obtain ⟨rest, cap, hc1, hc2, hrun⟩ := run_append_new' (ty := o.type) (A := A) (sLen := 0) (sCap := 0) (olds := []) (news := news) (x := a.eval y) hd ht hu hi hz hl (hf _ rfl) (firstCells_nil A _) (by omega) (by omega) (by simpa using hby)
    obtain ⟨s', e1, e2, g', x', hμ⟩ := g.newArr (sz := i.size) (cs := cs) (vs := [] ++ news ++ rest) (by
        simp only [List.nil_append, ← hp.1, List.take_left]; exact hp) (by simp [hp.1]) E (w := s.w.drew) (Below.refl _ _).drew rfl
    refine wp_value (cv := .slice (some ⟨s.w.heap.size, 0, none⟩) m cap) (w' := s'.w) ?_ (hk _ _ s' ⟨rfl, e1⟩ g' x' ?_)
    · rw [e2]
      simp only [execOp, ho, resolve, invoke, builtin, Sem.run_bind, Sem.run_pure, Result.andThen_ok, List.map_toArray, List.map_cons, List.map_nil, hA]
      rw [hrun, Nat.zero_add]
      rfl
    · refine V.newArr (cs := cs) (by rw [e1]; simp) hμ (by omega) ?_
      simp only [List.nil_append, List.length_append, hp.1, hlen, hc2, Nat.zero_add, hzs]
      rw [← Nat.add_mul]
      exact Nat.mul_le_mul_right _ (by omega)

theorem op_appendArr {x y : Operand} {t u E : TypeId} {i : TypeInfo} {z : Value} {d : TypeDesc} {sz m p gg off len : Nat} {cs cs0 : List AV} (ho : o.op = .call { callee := .builtin .append, args := #[x, y], argTypes := #[t, u] })
    (hd : d = .string ∨ ∃ E', d = .slice E') (ht : P.underlying t = some (.slice E)) (hu : P.underlying u = some d) (hi : P.info? E = some i) (hz : i.zero = some z) (hsz : i.size = sz) (hzs : z.cells.size = sz) (hpos : sz ≠ 0)
    (hx : opv e x = .arr p gg sz off len) (hσ : σ[p]? = some (.arr sz gg cs0)) (hend : (off + len) * sz = cs0.length) (hy : srcv σ (opv e y) = some (cs, m)) (hys : szv (opv e y) sz) (h1 : ones cs = true)
    (hby : (len + m) * i.bytes ≤ 140737488355328) (h63 : len + m ≤ 9223372036854775807) (hlen : cs.length = m * sz) :
    AOp P σ e o (.arr p (gg + 1) sz 0 (len + m)) (σ.set p (.arr sz (gg + 1) (cs0.drop (off * sz) ++ cs))) := by
  intro s a hs g hv K Q hk _
  subst hs
  subst hsz
  have hplt : p < s.σ.length := (List.getElem?_eq_some_iff.1 hσ).1
  obtain ⟨news, hp, hl, hf⟩ := (hv y (by simp [ho, Op.operands, Call.operands])).src g hy hys
  have hexec : ∀ {v v' : Value} {w' : World}, a.eval x = v → (Builtin.append_ #[t, u] o.type #[v, a.eval y]).run P s.w = .ok v' w' → (execOp a.eval o).run P s.w = .ok (.value v') w' := fun {v v' w'} h2 h3 => by
    simp only [execOp, ho, resolve, invoke, builtin, Sem.run_bind, Sem.run_pure, Result.andThen_ok, List.map_toArray, List.map_cons, List.map_nil, h2]
    rw [h3]; rfl
  have hV : ∀ {s' : CS} {v : Value}, s'.σ = s.σ.set p (.arr i.size (gg + 1) (cs0.drop (off * i.size) ++ cs)) → v.oneCell' = true → ((∃ ad, v = .slice ad 0 0 ∧ len + m = 0) ∨
        ∃ cap, v = .slice (some ⟨(s'.μ p).b, (s'.μ p).base + 0 * i.size, none⟩) (len + m) cap ∧ len + m ≤ cap ∧ (s'.μ p).base + (0 + cap) * i.size ≤ (s'.μ p).tot) → V s' (.arr p (gg + 1) i.size 0 (len + m)) v := fun {s' v} h1 h2 h3 =>
    .arr _ _ _ _ _ _ h2 (.mk (cs := cs0.drop (off * i.size) ++ cs) (by rw [h1]; simp [hplt]) ⟨rfl, h3⟩)
  have hnewblock : ∀ {A : Option Addr} {cap0 : Nat} {olds : List Value}, a.eval x = .slice A len cap0 → cap0 < len + m → PW s (cs0.drop (off * i.size)) olds → (Builtin.firstCells i.size len (.slice A len cap0)).run P s.w.drew = .ok olds.toArray s.w.drew → o.wp P a s.w K Q := fun {A cap0 olds} hA hroom hpo hfo => by
    obtain ⟨rest, cap, hc1, hc2, hrun⟩ := run_append_new' (ty := o.type) (A := A) (sLen := len) (sCap := cap0) (olds := olds) (news := news) (x := a.eval y) hd ht hu hi hz hl (hf _ rfl) hfo hroom h63 hby
    have holen : olds.length = len * i.size := by
      rw [hpo.1, List.length_drop, ← hend, Nat.add_mul]; omega
    have htot : (olds ++ news ++ rest).length = cap * i.size := by
      simp only [List.length_append, holen, hp.1, hlen, hc2, hzs]
      rw [← Nat.add_mul, ← Nat.add_mul]; congr 1; omega
    have hcap : cap * i.size ≠ 0 := Nat.mul_ne_zero (by omega) hpos
    obtain ⟨s', e1, e2, g', x', hμ⟩ := g.renew hσ (g' := gg + 1) (by omega) (cs' := cs0.drop (off * i.size) ++ cs) ⟨s.w.heap.size, 0, (olds ++ news ++ rest).length⟩ (w' := s.w.drew.alloc (.cells (olds ++ news ++ rest).toArray E (0, 0)))
      (by rw [alloc_size]; exact Nat.le_succ _) rfl rfl rfl (fun b hb _ => by rw [alloc_heap, if_neg (by rw [drew_heap]; omega)]; rfl)
      (.inr ⟨.inr ⟨Nat.le_refl _, by rw [alloc_size]; exact Nat.lt_succ_self _⟩, _, E, by rw [alloc_heap]; exact if_pos rfl, by rw [htot]; exact hcap, rfl, by
        simp only [Nat.zero_add, List.length_append, hp.1, hpo.1]; omega, by
        simp only [List.drop_zero]
        have h5 : (olds ++ news).length = (cs0.drop (off * i.size) ++ cs).length := by simp only [List.length_append, hpo.1, hp.1]
        rw [← h5, List.take_left]; exact hpo.append hp⟩)
    refine wp_value (w' := s'.w) (by rw [e2]; exact hexec hA hrun) (hk _ _ s' ⟨rfl, e1⟩ g' x' (hV e1 rfl (.inr ⟨cap, ?_, hc1, ?_⟩)))
    · rw [hμ]; simp
    · rw [hμ, htot]; simp
  obtain ⟨_, ⟨A, hA, h0⟩ | ⟨cap, hA, hlc, hfit⟩⟩ := (hx ▸ hv x (by simp [ho, Op.operands, Call.operands])).inv_arr hσ
  · subst h0
    have hd0 : cs0.drop (off * i.size) = [] := List.drop_eq_nil_of_le (by rw [← hend]; simp)
    by_cases hm : m = 0
    · subst hm
      have hcs : cs = [] := List.eq_nil_of_length_eq_zero (by simpa using hlen)
      subst hcs
      have hn := hp.inv_nil
      subst hn
      obtain ⟨s', e1, e2, g', x', hμ⟩ := g.renew hσ (g' := gg + 1) (by omega) (cs' := cs0.drop (off * i.size) ++ []) ⟨0, 0, 0⟩ (w' := s.w) (Nat.le_refl _) rfl rfl rfl (fun b _ _ => rfl) (.inl ⟨rfl, by rw [hd0]; rfl⟩)
      exact wp_value (w' := s'.w) (by rw [e2]; exact hexec hA (run_append_zero hd ht hu hi hl (hf _ rfl) (Nat.le_refl _))) (hk _ _ s' ⟨rfl, e1⟩ g' x' (hV e1 rfl (.inl ⟨A, rfl, rfl⟩)))
    · exact hnewblock (olds := []) hA (by omega) (by rw [hd0]; exact .nil) (firstCells_nil A _)
  · by_cases hroom : len + m ≤ cap
    · by_cases hct : cap = 0
      · have hl0 : len = 0 := by omega
        have hm0 : m = 0 := by omega
        subst hl0; subst hm0; subst hct
        have hcs : cs = [] := List.eq_nil_of_length_eq_zero (by simpa using hlen)
        subst hcs
        have hn := hp.inv_nil
        subst hn
        have hd0 : cs0.drop (off * i.size) = [] := List.drop_eq_nil_of_le (by rw [← hend]; simp)
        obtain ⟨s', e1, e2, g', x', hμ⟩ := g.renew hσ (g' := gg + 1) (by omega) (cs' := cs0.drop (off * i.size) ++ []) ⟨0, 0, 0⟩ (w' := s.w) (Nat.le_refl _) rfl rfl rfl (fun b _ _ => rfl) (.inl ⟨rfl, by rw [hd0]; rfl⟩)
        exact wp_value (w' := s'.w) (by rw [e2]; exact hexec hA (run_append_zero hd ht hu hi hl (hf _ rfl) (Nat.le_refl _))) (hk _ _ s' ⟨rfl, e1⟩ g' x' (hV e1 rfl (.inl ⟨_, rfl, rfl⟩)))
      · have hcs1 : 0 < cap * i.size := Nat.pos_of_ne_zero (Nat.mul_ne_zero hct hpos)
        have hfit' : (s.μ p).base + off * i.size + cap * i.size ≤ (s.μ p).tot := by rw [Nat.add_mul] at hfit; omega
        have hlive : s.live p := by unfold CS.live; rw [hσ]; show (s.μ p).tot ≠ 0; omega
        obtain ⟨_, vs, T, hb, ht0, h7, h8, hpv⟩ := g.rep hσ hlive
        have hmle : len * i.size + m * i.size ≤ cap * i.size := by rw [← Nat.add_mul]; exact Nat.mul_le_mul_right _ hroom
        have hnl : news.length = m * i.size := by rw [hp.1, hlen]
        have hcl0 : cs0.length = off * i.size + len * i.size := by rw [← hend, Nat.add_mul]
        have hrun := run_append_room' (ty := o.type) (b := (s.μ p).b) (off := (s.μ p).base + off * i.size) (sLen := len) (sCap := cap) (x := a.eval y) (news := news) (cur := vs) (T := T) hd ht hu hi hl (hf _ rfl) hroom hb (by omega) (one_of_pw hp h1)
        obtain ⟨s', e1, e2, g', x', hμ⟩ := g.renew hσ (g' := gg + 1) (by omega) (cs' := cs0.drop (off * i.size) ++ cs) ⟨(s.μ p).b, (s.μ p).base + off * i.size, (s.μ p).tot⟩
          (w' := s.w.setRow (s.μ p).b (vs.take ((s.μ p).base + off * i.size + len * i.size) ++ news ++ vs.drop ((s.μ p).base + off * i.size + len * i.size + news.length)).toArray)
          (by simp) rfl rfl rfl (fun b _ hne => setRow_other _ _ _ _ (hne hlive))
          (.inr ⟨.inl ⟨rfl, hlive⟩, _, T, setRow_heap _ _ _ _ _ _ hb, ht0, by simp; omega, by simp [hlen, hcl0]; omega, by
            have h9 := (hpv.drop (off * i.size)).append hp
            have h10 : ((vs.take ((s.μ p).base + off * i.size + len * i.size) ++ news ++ vs.drop ((s.μ p).base + off * i.size + len * i.size + news.length)).drop ((s.μ p).base + off * i.size)).take (cs0.drop (off * i.size) ++ cs).length =
                ((vs.drop (s.μ p).base).take cs0.length).drop (off * i.size) ++ news := by
              apply List.ext_getElem?
              intro j
              simp only [List.getElem?_take, List.getElem?_drop, List.getElem?_append, List.length_append, List.length_take, List.length_drop, hlen, hcl0, hnl]
              by_cases c1 : j < len * i.size
              · simp only [show j < off * i.size + len * i.size - off * i.size + m * i.size by omega, if_true, show (s.μ p).base + off * i.size + j < min ((s.μ p).base + off * i.size + len * i.size) vs.length + m * i.size by omega,
                  show (s.μ p).base + off * i.size + j < min ((s.μ p).base + off * i.size + len * i.size) vs.length by omega, show (s.μ p).base + off * i.size + j < (s.μ p).base + off * i.size + len * i.size by omega,
                  show j < min (off * i.size + len * i.size) (vs.length - (s.μ p).base) - off * i.size by omega, show off * i.size + j < off * i.size + len * i.size by omega]
                congr 1; omega
              · by_cases c2 : j < len * i.size + m * i.size
                · simp only [show j < off * i.size + len * i.size - off * i.size + m * i.size by omega, if_true, show (s.μ p).base + off * i.size + j < min ((s.μ p).base + off * i.size + len * i.size) vs.length + m * i.size by omega,
                    show ¬ (s.μ p).base + off * i.size + j < min ((s.μ p).base + off * i.size + len * i.size) vs.length by omega, if_false, show ¬ j < min (off * i.size + len * i.size) (vs.length - (s.μ p).base) - off * i.size by omega]
                  congr 1; omega
                · simp only [show ¬ j < off * i.size + len * i.size - off * i.size + m * i.size by omega, if_false, show ¬ j < min (off * i.size + len * i.size) (vs.length - (s.μ p).base) - off * i.size by omega]
                  rw [List.getElem?_eq_none (by rw [hnl]; omega)]
            show PW s _ (List.take _ (List.drop ((s.μ p).base + off * i.size) _))
            rw [h10]; exact h9⟩)
        refine wp_value (w' := s'.w) (by rw [e2]; exact hexec hA hrun) (hk _ _ s' ⟨rfl, e1⟩ g' x' (hV e1 rfl (.inr ⟨cap, ?_, hroom, ?_⟩)))
        · rw [hμ]; simp
        · rw [hμ]; simp; omega
    · have hct : (s.μ p).tot ≠ 0 ∨ len * i.size = 0 := by
        rcases Nat.eq_zero_or_pos (s.μ p).tot with h | h
        · right
          have : (off + cap) * i.size = 0 := by omega
          have h6 : len * i.size ≤ (off + cap) * i.size := Nat.mul_le_mul_right _ (by omega)
          omega
        · left; omega
      rcases hct with hct | hl0
      · have hlive : s.live p := by unfold CS.live; rw [hσ]; exact hct
        obtain ⟨_, vs, T, hb, ht0, h7, h8, hpv⟩ := g.rep hσ hlive
        have hcl0 : cs0.length = off * i.size + len * i.size := by rw [← hend, Nat.add_mul]
        have hpo := hpv.drop (off * i.size)
        refine hnewblock hA (by omega) hpo (run_firstCells_some s.w.drew i.size len _ len cap _ (by simp; omega) fun j v hj => ?_)
        rw [add_none]
        rw [List.getElem?_drop, List.getElem?_take] at hj
        split at hj
        · rw [List.getElem?_drop] at hj
          show s.w.cell? _ = _
          rw [cells_get hb, Nat.add_assoc]; exact hj
        · cases hj
      · have hd0 : cs0.drop (off * i.size) = [] := List.drop_eq_nil_of_le (by rw [← hend, Nat.add_mul]; omega)
        have hl1 : len = 0 := by
          rcases Nat.mul_eq_zero.1 hl0 with h | h
          · exact h
          · exact absurd h hpos
        subst hl1
        refine hnewblock (olds := []) hA (by omega) (by rw [hd0]; exact .nil) ?_
        simp [Builtin.firstCells, loadCells, loadCellsFrom]
end Lg
namespace Lg
open Go Go.RowKit
variable [GLay]

inductive AEx where
  | normal
  | exit (id : Nat)
  | ret
  | pan (v : AV)

abbrev QA := AEx → Env → List AO → Prop

def Post (s0 : CS) (N : Nat) (Q : QA) : Exit → Act → World → Prop := fun ex a w => ∃ s, s.w = w ∧ Good s ∧ Ext s0 s ∧ ∃ e, EnvOK s N e a ∧
  match ex with
  | .normal => Q .normal e s.σ
  | .exit id => Q (.exit id) e s.σ
  | .ret => Q .ret e s.σ
  | .panic [en] => en = { v := en.v, recovered := false } ∧ ∃ v, V s v en.v ∧ Q (.pan v) e s.σ
  | _ => False

def AWp (P : Program) (N : Nat) (c : Code) (e : Env) (σ : List AO) (Q : QA) : Prop :=
  ∀ (s0 s : CS) (a : Act), s.σ = σ → Good s → Ext s0 s → EnvOK s N e a → c.wp P (Post s0 N Q) a s.w
def AOps (P : Program) (N : Nat) (ops : Array Oper) (l : List Oper) (e : Env) (σ : List AO) (Q : QA) : Prop :=
  ∀ (s0 s : CS) (a : Act), s.σ = σ → Good s → Ext s0 s → EnvOK s N e a → wpList P ops (Post s0 N Q) l a s.w

section code
variable {P : Program} {N : Nat} {e : Env} {σ : List AO} {Q : QA} {ops : Array Oper}

theorem AWp.mono {c : Code} {Q' : QA} (h : AWp P N c e σ Q) (hq : ∀ ex e σ, Q ex e σ → Q' ex e σ) : AWp P N c e σ Q' := fun s0 s a hs g x he =>
  wp_mono (h s0 s a hs g x he) fun ex a' w' hp => by
    obtain ⟨s', h1, h2, h3, e', h4, h5⟩ := hp
    refine ⟨s', h1, h2, h3, e', h4, ?_⟩
    cases ex with
    | normal => exact hq _ _ _ h5
    | exit id => exact hq _ _ _ h5
    | ret => exact hq _ _ _ h5
    | goto l => exact h5
    | outgrown => exact h5
    | panic ch =>
      cases ch with
      | nil => exact h5
      | cons en r =>
        cases r with
        | nil => obtain ⟨h6, v, h7, h8⟩ := h5; exact ⟨h6, v, h7, hq _ _ _ h8⟩
        | cons => exact h5

theorem AWp_skip (h : Q .normal e σ) : AWp P N .skip e σ Q := fun s0 s a hs g x he => wp_skip ⟨s, rfl, g, x, e, he, by rw [hs]; exact h⟩
theorem AWp_ret (h : Q .ret e σ) : AWp P N .ret e σ Q := fun s0 s a hs g x he => wp_ret ⟨s, rfl, g, x, e, he, by rw [hs]; exact h⟩
theorem AWp_exit {id : Nat} (h : Q (.exit id) e σ) : AWp P N (.exit id) e σ Q := fun s0 s a hs g x he => wp_exit ⟨s, rfl, g, x, e, he, by rw [hs]; exact h⟩
def thenQ (P : Program) (N : Nat) (c : Code) (Q : QA) : QA
  | .normal, e, σ => AWp P N c e σ Q
  | ex, e, σ => Q ex e σ
theorem AWp_seq {c d : Code} (h : AWp P N c e σ (thenQ P N d Q)) : AWp P N (.seq c d) e σ Q := fun s0 s a hs g x he =>
  wp_seq (wp_mono (h s0 s a hs g x he) fun ex a' w' hp => by
    obtain ⟨s', h1, h2, h3, e', h4, h5⟩ := hp
    cases ex with
    | normal => subst h1; exact h5 s0 s' a' rfl h2 h3 h4
    | exit id => exact ⟨s', h1, h2, h3, e', h4, h5⟩
    | ret => exact ⟨s', h1, h2, h3, e', h4, h5⟩
    | goto l => exact h5.elim
    | outgrown => exact h5.elim
    | panic ch =>
      cases ch with
      | nil => exact h5.elim
      | cons en r =>
        cases r with
        | nil => exact ⟨s', h1, h2, h3, e', h4, h5⟩
        | cons => exact h5.elim)
theorem AWp_cond {x : Operand} {c d : Code} {b : Bool} (hb : opv e x = .bool b) (ht : b = true → AWp P N c e σ Q) (hf : b = false → AWp P N d e σ Q) : AWp P N (.cond x c d) e σ Q := fun s0 s a hs g hx he =>
  wp_cond_split (t := b) ((hb ▸ he.eval x).inv_bool) (fun h => ht h s0 s a hs g hx he) (fun h => hf h s0 s a hs g hx he)
def blockQ (id : Nat) (Q : QA) : QA
  | .exit id', e, σ => bif Nat.beq id' id then Q .normal e σ else Q (.exit id') e σ
  | ex, e, σ => Q ex e σ
theorem AWp_block {id : Nat} {c : Code} (h : AWp P N c e σ (blockQ id Q)) : AWp P N (.block id c) e σ Q := fun s0 s a hs g x he =>
  wp_block (wp_mono (h s0 s a hs g x he) fun ex a' w' hp => by
    obtain ⟨s', h1, h2, h3, e', h4, h5⟩ := hp
    cases ex with
    | normal => exact ⟨s', h1, h2, h3, e', h4, h5⟩
    | exit id' =>
      simp only [Exit.inBlock]
      by_cases hid : id' = id
      · subst hid
        rw [if_pos rfl]
        have : Nat.beq id' id' = true := Nat.beq_refl _
        simp only [blockQ, this, cond_true] at h5
        exact ⟨s', h1, h2, h3, e', h4, h5⟩
      · rw [if_neg hid]
        have : Nat.beq id' id = false := by
          cases hb : Nat.beq id' id with
          | false => rfl
          | true => exact absurd (Nat.eq_of_beq_eq_true hb) hid
        simp only [blockQ, this, cond_false] at h5
        exact ⟨s', h1, h2, h3, e', h4, h5⟩
    | ret => exact ⟨s', h1, h2, h3, e', h4, h5⟩
    | goto l => exact h5.elim
    | outgrown => exact h5.elim
    | panic ch =>
      cases ch with
      | nil => exact h5.elim
      | cons en r =>
        cases r with
        | nil => exact ⟨s', h1, h2, h3, e', h4, h5⟩
        | cons => exact h5.elim)

def AllLook (e : Env) : List (Nat × AV) → Prop
  | [] => True
  | (t, v) :: r => e.look t = v ∧ AllLook e r
def Sub (e e' : Env) : Prop := e'.D = e.D ∧ AllLook e e'.l
theorem AllLook.look {e : Env} : ∀ {l : List (Nat × AV)}, AllLook e l → ∀ t, lookL l t = .any ∨ lookL l t = e.look t
  | [], _, t => .inl rfl
  | (k, v) :: r, ⟨h1, h2⟩, t => by
    simp only [lookL]
    cases hb : Nat.beq k t with
    | true =>
      have : k = t := Nat.eq_of_beq_eq_true hb
      subst this
      right; simp [h1]
    | false => simpa [hb] using h2.look t
theorem Sub.ok {s : CS} {e e' : Env} {a : Act} (h : Sub e e') (k : EnvOK s N e a) : EnvOK s N e' a :=
  ⟨k.size, by rw [h.1]; exact k.defers, fun t => by
    rcases h.2.look t with h1 | h1
    · show V s (lookL e'.l t) _; rw [h1]; exact .any _
    · show V s (lookL e'.l t) _; rw [h1]; exact k.tmps t⟩
def closed (n : Nat) (σ : List AO) : Prop := ∀ p o, p < n → σ[p]? = some o → AV.ltL n o.cells
def ltE (n : Nat) (e : Env) : Prop := (∀ q ∈ e.l, q.2.lt n) ∧ ∀ d ∈ e.D, AV.ltL n d.2

theorem DefOK.cut {s : CS} {n : Nat} : ∀ {D : List (FuncId × List AV)} {ds : List Deferred}, (∀ d ∈ D, AV.ltL n d.2) → DefOK s D ds → DefOK (s.cut n) D ds
  | [], [], _, _ => trivial
  | (f, l) :: r, d :: r', h, ⟨⟨h1, vs, h2, h3⟩, h4⟩ => by
    refine ⟨⟨h1, vs, h2, h3.1, fun i c v e1 e2 => (h3.2 i c v e1 e2).cut ?_⟩, DefOK.cut (fun d hd => h d (by simp [hd])) h4⟩
    have := h (f, l) (by simp)
    rw [AV.ltL_iff] at this
    exact this c (List.mem_of_getElem? e1)
theorem lookL_lt {n : Nat} : ∀ {l : List (Nat × AV)}, (∀ q ∈ l, q.2.lt n) → ∀ t, (lookL l t).lt n
  | [], _, t => by simp [lookL, AV.lt]
  | (k, v) :: r, h, t => by
    simp only [lookL]
    cases hb : Nat.beq k t with
    | true => exact h (k, v) (by simp)
    | false => exact lookL_lt (fun q hq => h q (by simp [hq])) t
theorem EnvOK.cut {s : CS} {n : Nat} {e : Env} {a : Act} (h : EnvOK s N e a) (k : ltE n e) : EnvOK (s.cut n) N e a :=
  ⟨h.size, h.defers.cut k.2, fun t => (h.tmps t).cut (lookL_lt k.1 t)⟩
theorem Ext.cutm {s0 s : CS} (x : Ext s0 s) {m : Nat} (hm : s0.σ.length ≤ m) : Ext s0 (s.cut m) where
  objs := fun p o h => by
    obtain ⟨o', h', r⟩ := x.objs p o h
    have := (List.getElem?_eq_some_iff.1 h).1
    exact ⟨o', by show (s.σ.take _)[p]? = _; rw [List.getElem?_take, if_pos (by omega)]; exact h', r⟩
  ok := x.ok
  okn := x.okn
  mun := fun p h => x.mun p (by
    unfold CS.live at h ⊢
    change (match (s.σ.take m)[p]? with | some (.box _) => True | some (.arr _ _ _) => (s.μ p).tot ≠ 0 | some (.bytes _ _) => (s.μ p).tot ≠ 0 | some (.map _) => True | _ => False) at h
    rw [List.getElem?_take] at h
    split at h <;> rename_i e <;> split at e <;> simp_all)
  frame := x.frame
  size := x.size
  shp := fun p cs cs' z h1 h2 h3 => x.shp p cs cs' z h1 (by
    have hl := (List.getElem?_eq_some_iff.1 h1).1
    change (s.σ.take _)[p]? = _ at h2
    rw [List.getElem?_take, if_pos (by omega)] at h2; exact h2) h3
  tape := x.tape
  os := x.os
  output := x.output

theorem AWp_loop {ι : Type} {c : Code} (I : ι → Prop) (E : ι → Env) (S : ι → List AO) (m : ι → Nat) (i0 : ι) (hI : I i0) (h0 : Sub e (E i0)) (hσ : σ = S i0)
    (round : ∀ i, I i → AWp P N c (E i) (S i) fun ex e' σ' => match ex with
      | .normal => ∃ j n, I j ∧ m j < m i ∧ σ.length ≤ n ∧ Sub e' (E j) ∧ closed n σ' ∧ ltE n (E j) ∧ σ'.take n = S j
      | ex => Q ex e' σ') : AWp P N (.loop c) e σ Q := fun s0 s a hs g x he =>
  wp_loop_ghost (fun n a w => ∃ i s', I i ∧ m i = n ∧ s'.w = w ∧ s'.σ = S i ∧ Good s' ∧ Ext s s' ∧ EnvOK s' N (E i) a) (m i0) ⟨i0, s, hI, rfl, rfl, by rw [hs, hσ], g, Ext.refl s, h0.ok he⟩
    fun n a' w' ⟨i, s', h0', h1, h2, h3, h4, h5, h6⟩ => by
      subst h2
      refine wp_mono (round i h0' s s' a' h3 h4 h5 h6) fun ex a'' w'' hp => ?_
      obtain ⟨s'', k1, k2, k3, e'', k4, k5⟩ := hp
      cases ex with
      | normal =>
        obtain ⟨j, n', hIj, hj, hn, hsub, hcl, hlt, hσ'⟩ := k5
        exact ⟨m j, by omega, j, s''.cut n', hIj, rfl, k1, hσ', k2.cut hcl, k3.cutm (by rw [hs]; exact hn), (hsub.ok k4).cut hlt⟩
      | exit id => exact ⟨s'', k1, k2, x.trans k3, e'', k4, k5⟩
      | ret => exact ⟨s'', k1, k2, x.trans k3, e'', k4, k5⟩
      | goto l => exact k5.elim
      | outgrown => exact k5.elim
      | panic ch =>
        cases ch with
        | nil => exact k5.elim
        | cons en r =>
          cases r with
          | nil => exact ⟨s'', k1, k2, x.trans k3, e'', k4, k5⟩
          | cons => exact k5.elim

theorem AWp_region {id : Nat} (h : AOps P N ops ops.toList e σ Q) : AWp P N (.region id ops false) e σ Q := fun s0 s a hs g x he => wp_region_list (h s0 s a hs g x he)
theorem AOps_nil (h : Q .normal e σ) : AOps P N ops [] e σ Q := fun s0 s a hs g x he => wpList_nil ⟨s, rfl, g, x, e, he, by rw [hs]; exact h⟩
theorem AOps_consR {o : Oper} {rest : List Oper} {Nn X : AV → List AO → Prop} (hg : o.guard = none) (hd : ∀ d, o.dst = some d → d < N) (h : AOpR P σ e o Nn X)
    (k : ∀ v σ', Nn v σ' → AOps P N ops rest (e.put o.dst v) σ' Q) (kx : ∀ v σ', X v σ' → Q (.pan v) e σ') : AOps P N ops (o :: rest) e σ Q := fun s0 s a hs g x he => by
  refine wpList_plain hg fun K hK => h s a hs g (fun y _ => he.eval y) K _ (fun v cv s' hn g' x' hv => hK _ _ ?_) (fun v cv s' hn g' x' hv => ?_)
  · exact k v s'.σ hn s0 s' _ rfl g' (x.trans x') ((he.mono g x').put o.dst hv hd)
  · exact ⟨s', rfl, g', x.trans x', e, he.mono g x', rfl, v, hv, kx v s'.σ hn⟩
theorem AOps_cons {o : Oper} {rest : List Oper} {v : AV} {σ' : List AO} (hg : o.guard = none) (hd : ∀ d, o.dst = some d → d < N) (h : AOp P σ e o v σ')
    (k : AOps P N ops rest (e.put o.dst v) σ' Q) : AOps P N ops (o :: rest) e σ Q :=
  AOps_consR hg hd h (fun v' σ'' hn => by rw [hn.1, hn.2]; exact k) (fun _ _ hx => hx.elim)
theorem yielded_of {s : CS} {a : Act} {j d : Nat} {b : Bool} (he : EnvOK s N e a) (hj : (ops[j]?).bind (·.dst) = some d) (hb : e.look d = .bool b) (hdN : d < N) : yielded ops a.tmps j = some b := by
  have h1 := he.tmps d
  rw [hb] at h1
  have h2 := h1.inv_bool
  simp only [Act.eval] at h2
  unfold yielded
  rw [hj]
  have h3 : a.tmps[d]? = some (.bool b) := by
    have hlt : d < a.tmps.size := by rw [he.size]; exact hdN
    rw [Array.getD_eq_getD_getElem?, Array.getElem?_eq_getElem hlt] at h2
    rw [Array.getElem?_eq_getElem hlt]
    simpa using h2
  simp [h3]
theorem yielded_undef {s : CS} {a : Act} {j d : Nat} (he : EnvOK s N e a) (hj : (ops[j]?).bind (·.dst) = some d) (hb : e.look d = .tup []) (hdN : d < N) : yielded ops a.tmps j = none := by
  have h1 := he.tmps d
  rw [hb] at h1
  have h2 := h1.inv_undef
  simp only [Act.eval] at h2
  unfold yielded
  rw [hj]
  have h3 : a.tmps[d]? = some undef := by
    have hlt : d < a.tmps.size := by rw [he.size]; exact hdN
    rw [Array.getD_eq_getD_getElem?, Array.getElem?_eq_getElem hlt] at h2
    rw [Array.getElem?_eq_getElem hlt]
    simpa using h2
  simp [h3, undef]
theorem AOps_consGR {o : Oper} {rest : List Oper} {Nn X : AV → List AO → Prop} {j d : Nat} {want : Bool} (hg : o.guard = some (j, want)) (hj : (ops[j]?).bind (·.dst) = some d) (hdN : d < N) (hb : e.look d = .bool want) (hd : ∀ d, o.dst = some d → d < N)
    (h : AOpR P σ e o Nn X) (k : ∀ v σ', Nn v σ' → AOps P N ops rest (e.put o.dst v) σ' Q) (kx : ∀ v σ', X v σ' → Q (.pan v) e σ') : AOps P N ops (o :: rest) e σ Q := fun s0 s a hs g x he => by
  refine wpList_step fun K hK => ?_
  have hy := yielded_of he hj hb hdN
  rw [if_pos (by simp [Region.wanted, hg, hy])]
  refine h s a hs g (fun y _ => he.eval y) K _ (fun v cv s' hn g' x' hv => hK _ _ ?_) (fun v cv s' hn g' x' hv => ?_)
  · exact k v s'.σ hn s0 s' _ rfl g' (x.trans x') ((he.mono g x').put o.dst hv hd)
  · exact ⟨s', rfl, g', x.trans x', e, he.mono g x', rfl, v, hv, kx v s'.σ hn⟩
theorem AOps_consG {o : Oper} {rest : List Oper} {v : AV} {σ' : List AO} {j d : Nat} {want : Bool} (hg : o.guard = some (j, want)) (hj : (ops[j]?).bind (·.dst) = some d) (hdN : d < N) (hb : e.look d = .bool want) (hd : ∀ d, o.dst = some d → d < N)
    (h : AOp P σ e o v σ') (k : AOps P N ops rest (e.put o.dst v) σ' Q) : AOps P N ops (o :: rest) e σ Q :=
  AOps_consGR hg hj hdN hb hd h (fun v' σ'' hn => by rw [hn.1, hn.2]; exact k) (fun _ _ hx => hx.elim)
theorem AOps_consS {o : Oper} {rest : List Oper} {j d : Nat} {want : Bool} (hg : o.guard = some (j, want)) (hj : (ops[j]?).bind (·.dst) = some d) (hdN : d < N) (hb : e.look d = .bool (!want) ∨ e.look d = .tup []) (hd : ∀ d, o.dst = some d → d < N)
    (k : AOps P N ops rest (e.put o.dst (.tup [])) σ Q) : AOps P N ops (o :: rest) e σ Q := fun s0 s a hs g x he => by
  refine wpList_step fun K hK => ?_
  rcases hb with hb | hb
  · have hy := yielded_of he hj hb hdN
    rw [if_neg (by simp [Region.wanted, hg, hy])]
    exact hK _ _ (k s0 s _ hs g x (he.put o.dst (V.undef s) hd))
  · have hy := yielded_undef he hj hb hdN
    rw [if_neg (by simp [Region.wanted, hg, hy])]
    exact hK _ _ (k s0 s _ hs g x (he.put o.dst (V.undef s) hd))
end code

inductive Out where
  | ret (v : AV)
  | pan (v : AV)

def CPost (s0 : CS) (R : Out → List AO → Prop) : Ending → World → Prop := fun e w => ∃ s, s.w = w ∧ Good s ∧ Ext s0 s ∧
  match e with
  | .returned cv => ∃ v, V s v cv ∧ R (.ret v) s.σ
  | .panicked [en] => en = { v := en.v, recovered := false } ∧ ∃ v, V s v en.v ∧ R (.pan v) s.σ
  | _ => False
theorem PW.ltL {s : CS} {cs : List AV} {vs : List Value} (h : PW s cs vs) : AV.ltL s.σ.length cs := by
  rw [AV.ltL_iff]
  intro a ha
  obtain ⟨i, hi, rfl⟩ := List.getElem_of_mem ha
  obtain ⟨v, _, hv⟩ := h.get (List.getElem?_eq_getElem hi)
  exact hv.lt
theorem Good.closed {s : CS} (g : Good s) : closed s.σ.length s.σ := fun p o _ ho => by
  have hor := g.obj p o ho
  cases o with
  | box cs => obtain ⟨_, vs, T, _, h3⟩ := hor; exact h3.ltL
  | arr sz gg cs =>
    rcases hor with ⟨_, rfl⟩ | ⟨_, _, vs, T, _, _, _, h5⟩
    · trivial
    · exact h5.ltL
  | bytes T l => trivial
  | gone => trivial
  | dead => trivial
  | map l => obtain ⟨_, es, c, _, h3⟩ := hor; exact h3.ltL
def ACalls (P : Program) (f : FuncId) (args : List AV) (σ : List AO) (R : Out → List AO → Prop) : Prop :=
  ∀ (s : CS) (cargs : List Value), s.σ = σ → Good s → PW s args cargs → Calls P f cargs.toArray s.w (CPost s R)
def Ret (v : AV) (σ' : List AO) : Out → List AO → Prop := fun r σ'' => r = .ret v ∧ σ'' = σ'

section calls
variable {P : Program} {N : Nat} {e : Env} {σ : List AO} {Q : QA} {ops : Array Oper}

theorem ACalls.mono {f : FuncId} {args : List AV} {R R' : Out → List AO → Prop} (h : ACalls P f args σ R) (hr : ∀ r σ, R r σ → R' r σ) : ACalls P f args σ R' := fun s cargs hs g hp =>
  (h s cargs hs g hp).mono fun ed w' hc => by
    obtain ⟨s', h1, h2, h3, h4⟩ := hc
    refine ⟨s', h1, h2, h3, ?_⟩
    cases ed with
    | returned cv => obtain ⟨v, h5, h6⟩ := h4; exact ⟨v, h5, hr _ _ h6⟩
    | outgrown => exact h4
    | panicked ch =>
      cases ch with
      | nil => exact h4
      | cons en r =>
        cases r with
        | nil => obtain ⟨h5, v, h6, h7⟩ := h4; exact ⟨h5, v, h6, hr _ _ h7⟩
        | cons => exact h4

theorem PW.map_eval {s : CS} {a : Act} {o : Oper} (hv : ∀ x ∈ o.op.operands, V s (opv e x) (a.eval x)) : ∀ (l : List Operand), (∀ x ∈ l, x ∈ o.op.operands) → PW s (l.map (opv e)) (l.map a.eval)
  | [], _ => .nil
  | x :: r, h => .cons (hv x (h x (by simp))) (PW.map_eval hv r fun y hy => h y (by simp [hy]))

theorem op_call {o : Oper} {c : Operand} {asv : Array Operand} {T : Array TypeId} {k : FuncId} {fn : Func} {fs av cs : List AV} {R : Out → List AO → Prop} (ho : o.op = .call { callee := .value c, args := asv, argTypes := T })
    (hc : opv e c = .func (.func k) fs cs) (ha : asv.toList.map (opv e) = av) (hfn : P.funcs[k]? = some fn) (hname : (fn.name == "runtime.NumGoroutine") = false) (hb : fn.body.isNone = false)
    (h : ACalls P k (fs ++ av ++ cs) σ R) : AOpR P σ e o (fun v σ' => R (.ret v) σ') (fun v σ' => R (.pan v) σ') := by
  intro s a hs g hv K Q hk hq
  subst ha
  have hcv := hc ▸ hv c (by simp [ho, Op.operands, Call.operands])
  obtain ⟨vf, vc, h1, h2, h3⟩ := hcv.inv_func
  have hargs := PW.map_eval (o := o) hv asv.toList (fun x hx => by simp only [ho, Op.operands, Call.operands]; simp; right; exact Array.mem_toList_iff.1 hx)
  have hall := (h2.append hargs).append h3
  have hcalls := h s _ hs g hall
  have hexec : (execOp a.eval o).run P s.w = .ok (.enter k (vf ++ asv.toList.map a.eval ++ vc).toArray) s.w := by
    have hm : asv.map a.eval = (asv.toList.map a.eval).toArray := by apply Array.ext'; simp
    have hname' : ¬ fn.name = "runtime.NumGoroutine" := by simpa using hname
    have hb' : ¬ fn.body = none := by intro h; rw [h] at hb; cases hb
    simp [execOp, ho, resolve, invoke, Deferred.ofValue, h1, callFunc, hfn, hm]
    rw [if_neg hname', if_neg hb']
  unfold Oper.wp
  rw [hexec, Oper.upon_enter]
  refine hcalls.mono fun ed w' hc => ?_
  obtain ⟨s', e1, g', x', h4⟩ := hc
  subst e1
  cases ed with
  | returned cv => obtain ⟨v, h5, h6⟩ := h4; exact hk v cv s' h6 g' x' h5
  | outgrown => exact h4.elim
  | panicked ch =>
    cases ch with
    | nil => exact h4.elim
    | cons en r =>
      cases r with
      | nil =>
        obtain ⟨h5, v, h6, h7⟩ := h4
        have := hq v en.v s' h7 g' x' h6
        rw [h5]
        exact this
      | cons => exact h4.elim
theorem op_callF {o : Oper} {c : Operand} {asv : Array Operand} {T : Array TypeId} {k : FuncId} {fn : Func} {fs av cs : List AV} {v : AV} {σ' : List AO} (ho : o.op = .call { callee := .value c, args := asv, argTypes := T })
    (hc : opv e c = .func (.func k) fs cs) (ha : asv.toList.map (opv e) = av) (hfn : P.funcs[k]? = some fn) (hname : (fn.name == "runtime.NumGoroutine") = false) (hb : fn.body.isNone = false)
    (h : ACalls P k (fs ++ av ++ cs) σ (Ret v σ')) : AOp P σ e o v σ' :=
  (op_call ho hc ha hfn hname hb h).mono (fun _ _ h => by obtain ⟨h1, h2⟩ := h; injection h1 with h1; exact ⟨h1, h2⟩) (fun _ _ h => by obtain ⟨h1, _⟩ := h; cases h1)

def penv : Nat → List AV → List (Nat × AV)
  | _, [] => []
  | k, a :: r => (k, a) :: penv (k + 1) r
theorem penv_look : ∀ (l : List AV) (k t : Nat), lookL (penv k l) t = if k ≤ t then (l[t - k]?).getD .any else .any
  | [], k, t => by simp [penv, lookL]
  | a :: r, k, t => by
    simp only [penv, lookL]
    cases hb : Nat.beq k t with
    | true =>
      have : k = t := Nat.eq_of_beq_eq_true hb
      subst this
      simp
    | false =>
      have hne : k ≠ t := fun e => by subst e; simp at hb
      have ih := penv_look r (k + 1) t
      simp only [cond_false, ih]
      by_cases h : k ≤ t
      · rw [if_pos (by omega), if_pos h]
        obtain ⟨j, rfl⟩ : ∃ j, t = k + 1 + j := ⟨t - (k + 1), by omega⟩
        rw [show k + 1 + j - (k + 1) = j by omega, show k + 1 + j - k = j + 1 by omega]
        simp
      · rw [if_neg (by omega), if_neg h]

def resA (ts : List Nat) (e : Env) : AV :=
  match ts with
  | [t] => e.look t
  | ts => .tup (ts.map e.look)
def ResQ (n : Nat) (ts : List Nat) (R : Out → List AO → Prop) : QA := fun ex e σ =>
  match ex with
  | .normal | .ret => e.D = [] ∧ ∃ m, n ≤ m ∧ closed m σ ∧ (resA ts e).lt m ∧ R (.ret (resA ts e)) (σ.take m)
  | .pan v => e.D = [] ∧ ∃ m, n ≤ m ∧ closed m σ ∧ v.lt m ∧ R (.pan v) (σ.take m)
  | _ => False

def resV (ts : List Nat) (tmps : Array Value) : Value :=
  match ts with
  | [t] => tmps.getD t undef
  | ts => .tuple (ts.map fun t => tmps.getD t undef).toArray
theorem resA_V {s : CS} {a : Act} (h : EnvOK s N e a) (ts : List Nat) : V s (resA ts e) (resV ts a.tmps) := by
  have hpw : ∀ ts : List Nat, PW s (ts.map e.look) (ts.map fun t => a.tmps.getD t undef) := fun ts => by
    induction ts with
    | nil => exact .nil
    | cons t r ih => exact .cons (h.tmps t) ih
  unfold resA resV
  split
  · exact h.tmps _
  · exact .tup _ _ (hpw ts).1 (hpw ts).2
def ResT (P : Program) (fn : Func) (ts : List Nat) : Prop := ∀ (tmps : Array Value) (w : World), (results fn tmps).run P w = .ok (resV ts tmps) w
theorem res1 {fn : Func} {a : Nat} (h : fn.results = #[.tmp a]) : ResT P fn [a] := fun tmps w => by simp [results, h, resV]
theorem ACalls_body {f : FuncId} {fn : Func} {c : Code} {args : List AV} {R : Out → List AO → Prop} {ts : List Nat} (hf : P.funcs[f]? = some fn) (hb : fn.body = some c) (hN : fn.ntmps = N) (hr : ResT P fn ts) (hl : args.length ≤ N)
    (h : closed σ.length σ → AV.ltL σ.length args → AWp P N c ⟨[], penv 0 args⟩ σ (ResQ σ.length ts R)) : ACalls P f args σ R := by
  intro s cargs hs g hp
  have hcl : closed σ.length σ := by rw [← hs]; exact g.closed
  have hal : AV.ltL σ.length args := by rw [← hs]; exact hp.ltL
  refine calls_of_wp hf hb ?_
  have henv : EnvOK s N ⟨[], penv 0 args⟩ { tmps := cargs.toArray ++ Array.replicate (fn.ntmps - cargs.toArray.size) undef, defers := [] } := by
    refine ⟨?_, trivial, fun t => ?_⟩
    · have := hp.1
      simp [hN]; omega
    · show V s (lookL (penv 0 args) t) _
      rw [penv_look]
      simp only [Nat.zero_le, if_true, Nat.sub_zero]
      cases ha : args[t]? with
      | none => exact .any _
      | some a =>
        obtain ⟨v, hv, hV⟩ := hp.get ha
        have hlt := (List.getElem?_eq_some_iff.1 hv).1
        have : (cargs.toArray ++ Array.replicate (fn.ntmps - cargs.toArray.size) undef).getD t undef = v := by
          rw [Array.getD_eq_getD_getElem?, Array.getElem?_append_left (by simpa using hlt)]
          simp [hv]
        simp only [Act.eval, this]
        exact hV
  refine wp_mono (h hcl hal s s _ hs g (Ext.refl s) henv) fun ex a w hpost => ?_
  obtain ⟨s', h1, h2, h3, e', h4, h5⟩ := hpost
  have hret : (e'.D = [] ∧ ∃ m, σ.length ≤ m ∧ closed m s'.σ ∧ (resA ts e').lt m ∧ R (.ret (resA ts e')) (s'.σ.take m)) → a.defers = [] ∧ ∃ v, (results fn a.tmps).run P w = .ok v w ∧ CPost s R (.returned v) w := fun ⟨k1, m, k2, k3, k4, k5⟩ => by
    have hD := h4.defers
    rw [k1] at hD
    have hd : a.defers = [] := by
      cases hd : a.defers with
      | nil => rfl
      | cons d r => rw [hd] at hD; exact hD.elim
    exact ⟨hd, _, hr a.tmps w, s'.cut m, h1, h2.cut k3, h3.cutm (by rw [hs]; exact k2), _, (resA_V h4 ts).cut k4, k5⟩
  cases ex with
  | normal => exact hret h5
  | ret => exact hret h5
  | exit id => exact h5.elim
  | goto l => exact h5.elim
  | outgrown => exact h5.elim
  | panic ch =>
    cases ch with
    | nil => exact h5.elim
    | cons en r =>
      cases r with
      | cons => exact h5.elim
      | nil =>
        obtain ⟨h6, v, h7, k1, m, k2, k3, k4, k5⟩ := h5
        have hD := h4.defers
        rw [k1] at hD
        have hd : a.defers = [] := by
          cases hd : a.defers with
          | nil => rfl
          | cons d r => rw [hd] at hD; exact hD.elim
        exact ⟨hd, s'.cut m, h1, h2.cut k3, h3.cutm (by rw [hs]; exact k2), h6, v, h7.cut k4, k5⟩
end calls
end Lg
namespace Lg
open Go Go.RowKit
variable [GLay]

def befB (tb : Array Nat) (i j : Nat) : Bool := (tb.getD j 0).testBit i

def readsOf (ops : Array Oper) (o : Oper) : List Nat :=
  (o.op.operands.toList.filterMap fun | .tmp t => some t | _ => none) ++
  (match o.guard with | some (j, _) => ((ops[j]?).bind (·.dst)).toList | none => [])

def rchk (ops : Array Oper) (tb : Array Nat) : Bool :=
  (List.range ops.size).all fun i =>
    match ops[i]? with
    | none => true
    | some o =>
      (o.after.toList.all fun e => !Region.binds .any e || (Nat.blt e.on i && befB tb e.on i)) &&
      (List.range ops.size).all fun j =>
        match ops[j]? with
        | none => true
        | some p =>
          match p.dst with
          | none => true
          | some t =>
            Nat.beq i j ||
            ((!(readsOf ops o).contains t || (bif Nat.blt j i then befB tb j i else befB tb i j)) &&
             (!(o.dst == some t) || (bif Nat.blt j i then befB tb j i else befB tb i j)))

def tbOK (ops : Array Oper) (tb : Array Nat) : Bool :=
  (List.range ops.size).all fun j =>
    match ops[j]? with
    | none => true
    | some o => (List.range ops.size).all fun i => !befB tb i j || (o.after.toList.any fun e => Region.binds .any e && (Nat.beq e.on i || befB tb i e.on))

def PastOK (P : Program) (tb : Array Nat) (i : Nat) (e : Env) (o : Oper) (v : AV) : List (Nat × List AO) → Prop
  | [] => True
  | (j, σ) :: r => (befB tb j i = true ∨ AOp P σ e o v σ) ∧ PastOK P tb i e o v r
def HeldOK (tb : Array Nat) (i : Nat) (σ : List AO) : List (Nat × (List AO → Prop)) → Prop
  | [] => True
  | (k, p) :: r => (befB tb k i = true ∨ p σ) ∧ HeldOK tb i σ r
def ChainOK (tb : Array Nat) (i : Nat) : List (Nat × List AO) → Prop
  | [] => True
  | (j, _) :: r => befB tb j i = true ∧ ChainOK tb i r

def GuardA (ops : Array Oper) (N : Nat) (e : Env) (o : Oper) (t : Bool) : Prop :=
  match o.guard with
  | none => t = true
  | some (j, want) => ∃ d, (ops[j]?).bind (·.dst) = some d ∧ d < N ∧ (e.look d = .bool (if t = true then want else !want) ∨ (t = false ∧ e.look d = .tup []))

inductive RP (P : Program) (N : Nat) (ops : Array Oper) (tb : Array Nat) (Q : Env → List AO → Prop) (X : AV → List AO → Prop) : Nat → Env → List AO → List (Nat × List AO) → List (Nat × (List AO → Prop)) → Prop
  | nil {i e σ past held} (hi : i = ops.size) (h : Q e σ) : RP P N ops tb Q X i e σ past held
  | all {i e σ past held} (o : Oper) (v : AV) (ho : ops[i]? = some o) (hg : GuardA ops N e o true) (hd : ∀ d, o.dst = some d → d < N) (h : ∀ σ, AOp P σ e o v σ)
      (k : RP P N ops tb Q X (i + 1) (e.put o.dst v) σ past held) : RP P N ops tb Q X i e σ past held
  | pure {i e σ past held} (o : Oper) (v : AV) (ho : ops[i]? = some o) (hg : GuardA ops N e o true) (hd : ∀ d, o.dst = some d → d < N) (h : AOp P σ e o v σ) (hp : PastOK P tb i e o v past)
      (k : RP P N ops tb Q X (i + 1) (e.put o.dst v) σ past ((i, fun σ' => AOp P σ' e o v σ') :: held)) : RP P N ops tb Q X i e σ past held
  | eff {i e σ past held} (o : Oper) (v : AV) (σ' : List AO) (ho : ops[i]? = some o) (hg : GuardA ops N e o true) (hd : ∀ d, o.dst = some d → d < N) (h : AOp P σ e o v σ') (hh : HeldOK tb i σ' held) (hc : ChainOK tb i past)
      (k : RP P N ops tb Q X (i + 1) (e.put o.dst v) σ' ((i, σ) :: past) held) : RP P N ops tb Q X i e σ past held
  | skip {i e σ past held} (o : Oper) (ho : ops[i]? = some o) (hg : GuardA ops N e o false) (hd : ∀ d, o.dst = some d → d < N)
      (k : RP P N ops tb Q X (i + 1) (e.put o.dst (.tup [])) σ past held) : RP P N ops tb Q X i e σ past held
  | pan {i e σ past held} (o : Oper) (v : AV) (σ' : List AO) (ho : ops[i]? = some o) (hg : GuardA ops N e o true) (h : AOpR P σ e o (fun _ _ => False) (fun v' σ'' => v' = v ∧ σ'' = σ')) (hc : ChainOK tb i past)
      (hall : ((List.range ops.size).all fun j => Nat.ble j i || befB tb i j) = true) (hx : X v σ') : RP P N ops tb Q X i e σ past held

inductive Kd | pure | eff | skip | pan
  deriving DecidableEq
structure Tr (P : Program) (N : Nat) (ops : Array Oper) (tb : Array Nat) (Q : Env → List AO → Prop) (X : AV → List AO → Prop) (i0 m : Nat) (E : Nat → Env) (H : Nat → List AO) (val : Nat → AV) (kd : Nat → Kd) : Prop where
  le : i0 ≤ m
  size : m ≤ ops.size
  step : ∀ i, i0 ≤ i → i < m → ∃ o, ops[i]? = some o ∧ (∀ d, o.dst = some d → d < N) ∧ E (i + 1) = (E i).put o.dst (val i) ∧ kd i ≠ .pan ∧
    (kd i = .pure → GuardA ops N (E i) o true ∧ AOp P (H i) (E i) o (val i) (H i) ∧ H (i + 1) = H i ∧
      (∀ j, i0 ≤ j → j < i → kd j = .eff → befB tb j i = true ∨ AOp P (H j) (E i) o (val i) (H j)) ∧
      (∀ j, i < j → j < m → kd j = .eff → befB tb i j = true ∨ AOp P (H (j + 1)) (E i) o (val i) (H (j + 1)))) ∧
    (kd i = .eff → GuardA ops N (E i) o true ∧ AOp P (H i) (E i) o (val i) (H (i + 1)) ∧ (∀ j, i0 ≤ j → j < i → kd j = .eff → befB tb j i = true)) ∧
    (kd i = .skip → GuardA ops N (E i) o false ∧ val i = .tup [] ∧ H (i + 1) = H i)
  fin : (m = ops.size ∧ Q (E m) (H m)) ∨ ∃ o v σ', ops[m]? = some o ∧ GuardA ops N (E m) o true ∧ AOpR P (H m) (E m) o (fun _ _ => False) (fun v' σ'' => v' = v ∧ σ'' = σ') ∧
    (∀ j, i0 ≤ j → j < m → kd j = .eff → befB tb j m = true) ∧ (∀ j, m < j → j < ops.size → befB tb m j = true) ∧ X v σ'

section rp
variable {P : Program} {N : Nat} {ops : Array Oper} {tb : Array Nat} {Q : Env → List AO → Prop} {X : AV → List AO → Prop}

theorem PastOK.mem {i : Nat} {e : Env} {o : Oper} {v : AV} : ∀ {past : List (Nat × List AO)}, PastOK P tb i e o v past → ∀ q ∈ past, befB tb q.1 i = true ∨ AOp P q.2 e o v q.2
  | [], _, q, h => by simp at h
  | (j, σ) :: r, ⟨h1, h2⟩, q, h => by
    rcases List.mem_cons.1 h with rfl | h
    · exact h1
    · exact PastOK.mem h2 q h
theorem HeldOK.mem {i : Nat} {σ : List AO} : ∀ {held : List (Nat × (List AO → Prop))}, HeldOK tb i σ held → ∀ q ∈ held, befB tb q.1 i = true ∨ q.2 σ
  | [], _, q, h => by simp at h
  | (j, p) :: r, ⟨h1, h2⟩, q, h => by
    rcases List.mem_cons.1 h with rfl | h
    · exact h1
    · exact HeldOK.mem h2 q h
theorem ChainOK.mem {i : Nat} : ∀ {past : List (Nat × List AO)}, ChainOK tb i past → ∀ q ∈ past, befB tb q.1 i = true
  | [], _, q, h => by simp at h
  | (j, σ) :: r, ⟨h1, h2⟩, q, h => by
    rcases List.mem_cons.1 h with rfl | h
    · exact h1
    · exact ChainOK.mem h2 q h

theorem RP.trace {i : Nat} {e : Env} {σ : List AO} {past : List (Nat × List AO)} {held : List (Nat × (List AO → Prop))} (h : RP P N ops tb Q X i e σ past held) (hi : i ≤ ops.size) :
    ∃ m E H val kd, E i = e ∧ H i = σ ∧ Tr P N ops tb Q X i m E H val kd ∧
      (∀ j, i ≤ j → j < m → kd j = .pure → ∀ q ∈ past, ∃ o, ops[j]? = some o ∧ (befB tb q.1 j = true ∨ AOp P q.2 (E j) o (val j) q.2)) ∧
      (∀ j, i ≤ j → j < m → kd j = .eff → (∀ q ∈ held, befB tb q.1 j = true ∨ q.2 (H (j + 1))) ∧ ∀ q ∈ past, befB tb q.1 j = true) ∧
      (m < ops.size → ∀ q ∈ past, befB tb q.1 m = true) := by
  induction h with
  | nil hi' h =>
    rename_i i e σ past held
    refine ⟨i, fun _ => e, fun _ => σ, fun _ => .any, fun _ => .pure, rfl, rfl, ⟨Nat.le_refl _, hi, fun j h1 h2 => by omega, .inl ⟨hi', h⟩⟩, fun j h1 h2 => by omega, fun j h1 h2 => by omega, fun h => by omega⟩
  | pan o v σ' ho hg h hc hall hx =>
    rename_i i e σ past held
    refine ⟨i, fun _ => e, fun _ => σ, fun _ => .any, fun _ => .pure, rfl, rfl, ⟨Nat.le_refl _, hi, fun j h1 h2 => by omega, .inr ⟨o, v, σ', ho, hg, h, fun j h1 h2 => by omega, fun j h1 h2 => ?_, hx⟩⟩, fun j h1 h2 => by omega, fun j h1 h2 => by omega, fun _ => hc.mem⟩
    have := List.all_eq_true.1 hall j (List.mem_range.2 h2)
    simp only [Bool.or_eq_true, Nat.ble_eq] at this
    exact this.resolve_left (by omega)
  | all o v ho hg hd h k ih =>
    rename_i i e σ past held
    have hlt : i < ops.size := (Array.getElem?_eq_some_iff.1 ho).1
    obtain ⟨m, E, H, val, kd, hE, hH, ht, h1, h2, h3⟩ := ih (by omega)
    refine ⟨m, fun j => if j = i then e else E j, fun j => if j = i then σ else H j, fun j => if j = i then v else val j, fun j => if j = i then .pure else kd j, if_pos rfl, if_pos rfl, ⟨by have := ht.le; omega, ht.size, fun j hj1 hj2 => ?_, ?_⟩, fun j hj1 hj2 hk q hq => ?_, fun j hj1 hj2 hk => ?_, h3⟩
    · by_cases hji : j = i
      · subst hji
        refine ⟨o, ho, hd, ?_, by simp, fun _ => ⟨by simpa using hg, by simpa using h σ, by simp [hH], fun j' h4 h5 => by omega, fun j' h4 h5 hk => .inr ?_⟩, fun hk => by simp at hk, fun hk => by simp at hk⟩
        · simp [hE]
        · simp only [if_true]; exact h _
      · obtain ⟨o', ho', hd', hE', hp', hpu, hef, hsk⟩ := ht.step j (by omega) hj2
        simp only [if_neg hji, if_neg (show j + 1 ≠ i by omega)]
        refine ⟨o', ho', hd', hE', hp', fun hk => ?_, fun hk => ?_, hsk⟩
        · obtain ⟨a1, a2, a3, a4, a5⟩ := hpu hk
          refine ⟨a1, a2, a3, fun j' h4 h5 hk' => ?_, fun j' h4 h5 hk' => ?_⟩
          · by_cases hj' : j' = i
            · subst hj'; simp at hk'
            · simp only [if_neg hj'] at hk' ⊢; exact a4 j' (by omega) h5 hk'
          · simp only [if_neg (show j' ≠ i by omega), if_neg (show j' + 1 ≠ i by omega)] at hk' ⊢; exact a5 j' h4 h5 hk'
        · obtain ⟨a1, a2, a3⟩ := hef hk
          refine ⟨a1, a2, fun j' h4 h5 hk' => ?_⟩
          by_cases hj' : j' = i
          · subst hj'; simp at hk'
          · simp only [if_neg hj'] at hk'; exact a3 j' (by omega) h5 hk'
    · have hmi : m ≠ i := by have := ht.le; omega
      simp only [if_neg hmi]
      rcases ht.fin with hf | ⟨o', v', σ'', f1, f2, f3, f4, f5, f6⟩
      · exact .inl hf
      · refine .inr ⟨o', v', σ'', f1, f2, f3, fun j h4 h5 hk => ?_, f5, f6⟩
        by_cases hj' : j = i
        · subst hj'; simp at hk
        · simp only [if_neg hj'] at hk; exact f4 j (by omega) h5 hk
    · by_cases hji : j = i
      · subst hji; exact ⟨o, ho, .inr (by simp only [if_true]; exact h _)⟩
      · simp only [if_neg hji] at hk ⊢; exact h1 j (by omega) hj2 hk q hq
    · by_cases hji : j = i
      · subst hji; simp at hk
      · simp only [if_neg hji, if_neg (show j + 1 ≠ i by omega)] at hk ⊢; exact h2 j (by omega) hj2 hk
  | pure o v ho hg hd h hp k ih =>
    rename_i i e σ past held
    have hlt : i < ops.size := (Array.getElem?_eq_some_iff.1 ho).1
    obtain ⟨m, E, H, val, kd, hE, hH, ht, h1, h2, h3⟩ := ih (by omega)
    refine ⟨m, fun j => if j = i then e else E j, fun j => if j = i then σ else H j, fun j => if j = i then v else val j, fun j => if j = i then .pure else kd j, if_pos rfl, if_pos rfl, ⟨by have := ht.le; omega, ht.size, fun j hj1 hj2 => ?_, ?_⟩, fun j hj1 hj2 hk q hq => ?_, fun j hj1 hj2 hk => ?_, h3⟩
    · by_cases hji : j = i
      · subst hji
        refine ⟨o, ho, hd, ?_, by simp, fun _ => ⟨by simpa using hg, by simpa using h, by simp [hH], fun j' h4 h5 => by omega, fun j' h4 h5 hk => ?_⟩, fun hk => by simp at hk, fun hk => by simp at hk⟩
        · simp [hE]
        · simp only [if_neg (show j' ≠ j by omega), if_neg (show j' + 1 ≠ j by omega)] at hk ⊢
          simp only [if_true]
          exact (h2 j' (by omega) h5 hk).1 (j, fun σ' => AOp P σ' e o v σ') (by simp)
      · obtain ⟨o', ho', hd', hE', hp', hpu, hef, hsk⟩ := ht.step j (by omega) hj2
        simp only [if_neg hji, if_neg (show j + 1 ≠ i by omega)]
        refine ⟨o', ho', hd', hE', hp', fun hk => ?_, fun hk => ?_, hsk⟩
        · obtain ⟨a1, a2, a3, a4, a5⟩ := hpu hk
          refine ⟨a1, a2, a3, fun j' h4 h5 hk' => ?_, fun j' h4 h5 hk' => ?_⟩
          · by_cases hj' : j' = i
            · subst hj'; simp at hk'
            · simp only [if_neg hj'] at hk' ⊢; exact a4 j' (by omega) h5 hk'
          · simp only [if_neg (show j' ≠ i by omega), if_neg (show j' + 1 ≠ i by omega)] at hk' ⊢; exact a5 j' h4 h5 hk'
        · obtain ⟨a1, a2, a3⟩ := hef hk
          refine ⟨a1, a2, fun j' h4 h5 hk' => ?_⟩
          by_cases hj' : j' = i
          · subst hj'; simp at hk'
          · simp only [if_neg hj'] at hk'; exact a3 j' (by omega) h5 hk'
    · have hmi : m ≠ i := by have := ht.le; omega
      simp only [if_neg hmi]
      rcases ht.fin with hf | ⟨o', v', σ'', f1, f2, f3, f4, f5, f6⟩
      · exact .inl hf
      · refine .inr ⟨o', v', σ'', f1, f2, f3, fun j h4 h5 hk => ?_, f5, f6⟩
        by_cases hj' : j = i
        · subst hj'; simp at hk
        · simp only [if_neg hj'] at hk; exact f4 j (by omega) h5 hk
    · by_cases hji : j = i
      · subst hji; exact ⟨o, ho, by simp only [if_true]; exact hp.mem q hq⟩
      · simp only [if_neg hji] at hk ⊢; exact h1 j (by omega) hj2 hk q hq
    · by_cases hji : j = i
      · subst hji; simp at hk
      · simp only [if_neg hji, if_neg (show j + 1 ≠ i by omega)] at hk ⊢
        obtain ⟨b1, b2⟩ := h2 j (by omega) hj2 hk
        exact ⟨fun q hq => b1 q (List.mem_cons_of_mem _ hq), b2⟩
  | eff o v σ' ho hg hd h hh hc k ih =>
    rename_i i e σ past held
    have hlt : i < ops.size := (Array.getElem?_eq_some_iff.1 ho).1
    obtain ⟨m, E, H, val, kd, hE, hH, ht, h1, h2, h3⟩ := ih (by omega)
    refine ⟨m, fun j => if j = i then e else E j, fun j => if j = i then σ else H j, fun j => if j = i then v else val j, fun j => if j = i then .eff else kd j, if_pos rfl, if_pos rfl, ⟨by have := ht.le; omega, ht.size, fun j hj1 hj2 => ?_, ?_⟩, fun j hj1 hj2 hk q hq => ?_, fun j hj1 hj2 hk => ?_, fun hm q hq => h3 hm q (List.mem_cons_of_mem _ hq)⟩
    · by_cases hji : j = i
      · subst hji
        refine ⟨o, ho, hd, ?_, by simp, fun hk => by simp at hk, fun _ => ⟨by simpa using hg, ?_, fun j' h4 h5 => by omega⟩, fun hk => by simp at hk⟩
        · simp [hE]
        · simp only [if_true, if_neg (show j + 1 ≠ j by omega), hH]; exact h
      · obtain ⟨o', ho', hd', hE', hp', hpu, hef, hsk⟩ := ht.step j (by omega) hj2
        simp only [if_neg hji, if_neg (show j + 1 ≠ i by omega)]
        refine ⟨o', ho', hd', hE', hp', fun hk => ?_, fun hk => ?_, hsk⟩
        · obtain ⟨a1, a2, a3, a4, a5⟩ := hpu hk
          refine ⟨a1, a2, a3, fun j' h4 h5 hk' => ?_, fun j' h4 h5 hk' => ?_⟩
          · by_cases hj' : j' = i
            · subst hj'
              simp only [if_true]
              obtain ⟨o2, ho2, hz⟩ := h1 j (by omega) hj2 hk (j', σ) (by simp)
              rw [ho'] at ho2; cases ho2
              exact hz
            · simp only [if_neg hj'] at hk' ⊢; exact a4 j' (by omega) h5 hk'
          · simp only [if_neg (show j' ≠ i by omega), if_neg (show j' + 1 ≠ i by omega)] at hk' ⊢; exact a5 j' h4 h5 hk'
        · obtain ⟨a1, a2, a3⟩ := hef hk
          refine ⟨a1, a2, fun j' h4 h5 hk' => ?_⟩
          by_cases hj' : j' = i
          · subst hj'; exact (h2 j (by omega) hj2 hk).2 (j', σ) (by simp)
          · simp only [if_neg hj'] at hk'; exact a3 j' (by omega) h5 hk'
    · have hmi : m ≠ i := by have := ht.le; omega
      simp only [if_neg hmi]
      rcases ht.fin with hf | ⟨o', v', σ'', f1, f2, f3, f4, f5, f6⟩
      · exact .inl hf
      · refine .inr ⟨o', v', σ'', f1, f2, f3, fun j h4 h5 hk => ?_, f5, f6⟩
        by_cases hj' : j = i
        · subst hj'; exact h3 (Array.getElem?_eq_some_iff.1 f1).1 (j, σ) (by simp)
        · simp only [if_neg hj'] at hk; exact f4 j (by omega) h5 hk
    · by_cases hji : j = i
      · subst hji; simp at hk
      · simp only [if_neg hji] at hk ⊢; exact h1 j (by omega) hj2 hk q (List.mem_cons_of_mem _ hq)
    · by_cases hji : j = i
      · subst hji
        simp only [if_neg (show j + 1 ≠ j by omega), hH]
        exact ⟨hh.mem, hc.mem⟩
      · simp only [if_neg hji, if_neg (show j + 1 ≠ i by omega)] at hk ⊢
        obtain ⟨b1, b2⟩ := h2 j (by omega) hj2 hk
        exact ⟨b1, fun q hq => b2 q (List.mem_cons_of_mem _ hq)⟩
  | skip o ho hg hd k ih =>
    rename_i i e σ past held
    have hlt : i < ops.size := (Array.getElem?_eq_some_iff.1 ho).1
    obtain ⟨m, E, H, val, kd, hE, hH, ht, h1, h2, h3⟩ := ih (by omega)
    refine ⟨m, fun j => if j = i then e else E j, fun j => if j = i then σ else H j, fun j => if j = i then .tup [] else val j, fun j => if j = i then .skip else kd j, if_pos rfl, if_pos rfl, ⟨by have := ht.le; omega, ht.size, fun j hj1 hj2 => ?_, ?_⟩, fun j hj1 hj2 hk q hq => ?_, fun j hj1 hj2 hk => ?_, h3⟩
    · by_cases hji : j = i
      · subst hji
        refine ⟨o, ho, hd, ?_, by simp, fun hk => by simp at hk, fun hk => by simp at hk, fun _ => ⟨by simpa using hg, by simp, by simp [hH]⟩⟩
        simp [hE]
      · obtain ⟨o', ho', hd', hE', hp', hpu, hef, hsk⟩ := ht.step j (by omega) hj2
        simp only [if_neg hji, if_neg (show j + 1 ≠ i by omega)]
        refine ⟨o', ho', hd', hE', hp', fun hk => ?_, fun hk => ?_, hsk⟩
        · obtain ⟨a1, a2, a3, a4, a5⟩ := hpu hk
          refine ⟨a1, a2, a3, fun j' h4 h5 hk' => ?_, fun j' h4 h5 hk' => ?_⟩
          · by_cases hj' : j' = i
            · subst hj'; simp at hk'
            · simp only [if_neg hj'] at hk' ⊢; exact a4 j' (by omega) h5 hk'
          · simp only [if_neg (show j' ≠ i by omega), if_neg (show j' + 1 ≠ i by omega)] at hk' ⊢; exact a5 j' h4 h5 hk'
        · obtain ⟨a1, a2, a3⟩ := hef hk
          refine ⟨a1, a2, fun j' h4 h5 hk' => ?_⟩
          by_cases hj' : j' = i
          · subst hj'; simp at hk'
          · simp only [if_neg hj'] at hk'; exact a3 j' (by omega) h5 hk'
    · have hmi : m ≠ i := by have := ht.le; omega
      simp only [if_neg hmi]
      rcases ht.fin with hf | ⟨o', v', σ'', f1, f2, f3, f4, f5, f6⟩
      · exact .inl hf
      · refine .inr ⟨o', v', σ'', f1, f2, f3, fun j h4 h5 hk => ?_, f5, f6⟩
        by_cases hj' : j = i
        · subst hj'; simp at hk
        · simp only [if_neg hj'] at hk; exact f4 j (by omega) h5 hk
    · by_cases hji : j = i
      · subst hji; simp at hk
      · simp only [if_neg hji] at hk ⊢; exact h1 j (by omega) hj2 hk q hq
    · by_cases hji : j = i
      · subst hji; simp at hk
      · simp only [if_neg hji, if_neg (show j + 1 ≠ i by omega)] at hk ⊢; exact h2 j (by omega) hj2 hk
end rp
end Lg
namespace Lg
open Go Go.RowKit
variable [GLay]

section sound
variable {P : Program} {N : Nat} {ops : Array Oper} {tb : Array Nat}

def dstOf (ops : Array Oper) (k : Nat) : Option Nat := (ops[k]?).bind (·.dst)
def lw (ops : Array Oper) (p : Nat → Bool) (t : Nat) : Nat → Option Nat
  | 0 => none
  | k + 1 => if p k = true ∧ dstOf ops k = some t then some k else lw ops p t k
theorem lw_congr {p q : Nat → Bool} {t : Nat} : ∀ {n : Nat}, (∀ j, j < n → dstOf ops j = some t → p j = q j) → lw ops p t n = lw ops q t n
  | 0, _ => rfl
  | n + 1, h => by
    simp only [lw]
    by_cases hd : dstOf ops n = some t
    · rw [h n (by omega) hd, lw_congr (fun j hj => h j (by omega))]
    · simp only [hd, and_false, if_false]; exact lw_congr (fun j hj => h j (by omega))
theorem lw_cut {p : Nat → Bool} {t i : Nat} : ∀ {n : Nat}, i ≤ n → (∀ j, i ≤ j → j < n → dstOf ops j = some t → p j = false) → lw ops p t n = lw ops p t i
  | 0, h, _ => by have : i = 0 := by omega
                  subst this; rfl
  | n + 1, h, hp => by
    by_cases e : i = n + 1
    · subst e; rfl
    · simp only [lw]
      rw [if_neg (fun ⟨h1, h2⟩ => by rw [hp n (by omega) (by omega) h2] at h1; cases h1)]
      exact lw_cut (by omega) (fun j h1 h2 => hp j h1 (by omega))
theorem lw_hit {p : Nat → Bool} {t i n : Nat} (hi : i < n) (hp : p i = true) (hd : dstOf ops i = some t) (h : ∀ j, i < j → j < n → dstOf ops j = some t → p j = false) : lw ops p t n = some i := by
  rw [lw_cut (i := i + 1) (by omega) (fun j h1 h2 => h j (by omega) h2)]
  simp [lw, hp, hd]

def preA (ops : Array Oper) (e0 : Env) (val : Nat → AV) (p : Nat → Bool) (n t : Nat) : AV :=
  match lw ops p t n with
  | some j => val j
  | none => e0.look t
theorem put_look (e : Env) (d : Option Nat) (v : AV) (t : Nat) : (e.put d v).look t = if d = some t then v else e.look t := by
  cases d with
  | none => simp [Env.put]
  | some d =>
    show lookL ((d, v) :: e.l) t = _
    simp only [lookL]
    by_cases h : d = t
    · subst h
      simp
    · have : Nat.beq d t = false := by
        cases hb : Nat.beq d t with
        | false => rfl
        | true => exact absurd (Nat.eq_of_beq_eq_true hb) h
      simp [this, h]
      rfl
theorem put_D (e : Env) (d : Option Nat) (v : AV) : (e.put d v).D = e.D := by cases d <;> rfl

theorem count_drop {p q : Nat → Bool} {i : Nat} : ∀ {l : List Nat}, l.Nodup → i ∈ l → p i = true → q i = false → (∀ j, j ≠ i → q j = p j) → l.countP q + 1 = l.countP p
  | [], _, h, _, _, _ => by simp at h
  | a :: r, hn, h, hp, hq, hj => by
    have hn' := List.nodup_cons.1 hn
    rw [List.countP_cons, List.countP_cons]
    by_cases e : a = i
    · subst e
      have : r.countP q = r.countP p := List.countP_congr (fun x hx => by rw [hj x (fun e => hn'.1 (e ▸ hx))])
      rw [this, hp, hq]; simp
    · have := count_drop hn'.2 ((List.mem_cons.1 h).resolve_left (fun e' => e e'.symm)) hp hq hj
      rw [hj a e]
      omega

variable {Q : Env → List AO → Prop} {X : AV → List AO → Prop}

theorem Tr.hconst {i0 m : Nat} {E : Nat → Env} {H : Nat → List AO} {val : Nat → AV} {kd : Nat → Kd} (ht : Tr P N ops tb Q X i0 m E H val kd) : ∀ (b a : Nat), i0 ≤ a → a ≤ b → b ≤ m → (∀ j, a ≤ j → j < b → kd j ≠ .eff) → H a = H b
  | 0, a, _, h, _, _ => by have : a = 0 := by omega
                           subst this; rfl
  | b + 1, a, h0, h, hb, hk => by
    by_cases e : a = b + 1
    · subst e; rfl
    · have ih := ht.hconst b a h0 (by omega) (by omega) (fun j h1 h2 => hk j h1 (by omega))
      obtain ⟨o, _, _, _, hp, hpu, hef, hsk⟩ := ht.step b (by omega) (by omega)
      have : H (b + 1) = H b := by
        cases hkb : kd b with
        | pure => exact (hpu hkb).2.2.1
        | eff => exact absurd hkb (hk b (by omega) (by omega))
        | skip => exact (hsk hkb).2.2
        | pan => exact absurd hkb hp
      rw [ih, this]

theorem exists_next (f : Nat → Bool) (m : Nat) : ∀ (d i : Nat), m - i = d → i ≤ m → ∃ q, i ≤ q ∧ q ≤ m ∧ (∀ j, i ≤ j → j < q → f j = false) ∧ (q < m → f q = true)
  | 0, i, hd, hi => ⟨i, Nat.le_refl _, hi, fun j h1 h2 => by omega, fun h => by omega⟩
  | d + 1, i, hd, hi => by
    cases hf : f i with
    | true => exact ⟨i, Nat.le_refl _, hi, fun j h1 h2 => by omega, fun _ => hf⟩
    | false =>
      obtain ⟨q, h1, h2, h3, h4⟩ := exists_next f m d (i + 1) (by omega) (by omega)
      refine ⟨q, by omega, h2, fun j h5 h6 => ?_, h4⟩
      by_cases e : j = i
      · subst e; exact hf
      · exact h3 j (by omega) h6
theorem exists_last (f : Nat → Bool) (i : Nat) : ∀ (q : Nat), i ≤ q → (∀ j, i ≤ j → j < q → f j = false) ∨ ∃ j, i ≤ j ∧ j < q ∧ f j = true ∧ ∀ k, j < k → k < q → f k = false
  | 0, h => .inl (fun j h1 h2 => by omega)
  | q + 1, h => by
    by_cases e : i = q + 1
    · subst e; exact .inl (fun j h1 h2 => by omega)
    · cases hf : f q with
      | true => exact .inr ⟨q, by omega, by omega, hf, fun k h1 h2 => by omega⟩
      | false =>
        rcases exists_last f i q (by omega) with h1 | ⟨j, h1, h2, h3, h4⟩
        · refine .inl fun j h2 h3 => ?_
          by_cases e' : j = q
          · subst e'; exact hf
          · exact h1 j h2 (by omega)
        · refine .inr ⟨j, h1, by omega, h3, fun k h5 h6 => ?_⟩
          by_cases e' : k = q
          · subst e'; exact hf
          · exact h4 k h5 (by omega)

structure Chk (ops : Array Oper) (tb : Array Nat) : Prop where
  edge : ∀ (i : Nat) (o : Oper), ops[i]? = some o → ∀ ed ∈ o.after.toList, Region.binds .any ed = true → ed.on < i ∧ befB tb ed.on i = true
  rd : ∀ (i j t : Nat) (o : Oper), ops[i]? = some o → dstOf ops j = some t → j ≠ i → t ∈ readsOf ops o → (j < i → befB tb j i = true) ∧ (i < j → befB tb i j = true)
  wr : ∀ (i j t : Nat) (o : Oper), ops[i]? = some o → dstOf ops j = some t → j ≠ i → o.dst = some t → (j < i → befB tb j i = true) ∧ (i < j → befB tb i j = true)
  way : ∀ (i j : Nat) (o : Oper), ops[j]? = some o → i < ops.size → befB tb i j = true → ∃ ed ∈ o.after.toList, Region.binds .any ed = true ∧ (ed.on = i ∨ befB tb i ed.on = true)

theorem Chk.of (h : rchk ops tb = true) (k : tbOK ops tb = true) : Chk ops tb := by
  have hlt : ∀ {i : Nat} {o : Oper}, ops[i]? = some o → i < ops.size := fun h => (Array.getElem?_eq_some_iff.1 h).1
  have key : ∀ (i j t : Nat) (o : Oper), ops[i]? = some o → dstOf ops j = some t → j ≠ i →
      (t ∈ readsOf ops o → (bif Nat.blt j i then befB tb j i else befB tb i j) = true) ∧ (o.dst = some t → (bif Nat.blt j i then befB tb j i else befB tb i j) = true) := fun i j t o ho hd hne => by
    have h1 := List.all_eq_true.1 h i (List.mem_range.2 (hlt ho))
    rw [ho] at h1
    simp only [Bool.and_eq_true] at h1
    have hj : ∃ p, ops[j]? = some p ∧ p.dst = some t := by
      unfold dstOf at hd
      cases hp : ops[j]? with
      | none => rw [hp] at hd; cases hd
      | some p => rw [hp] at hd; exact ⟨p, rfl, hd⟩
    obtain ⟨p, hp, hpd⟩ := hj
    have h2 := List.all_eq_true.1 h1.2 j (List.mem_range.2 (hlt hp))
    rw [hp] at h2
    simp only [hpd] at h2
    have hb : Nat.beq i j = false := by
      cases hb : Nat.beq i j with
      | false => rfl
      | true => exact absurd (Nat.eq_of_beq_eq_true hb).symm hne
    rw [hb] at h2
    simp only [Bool.false_or, Bool.and_eq_true, Bool.or_eq_true, Bool.not_eq_true'] at h2
    refine ⟨fun hm => h2.1.resolve_left (fun hc => ?_), fun hm => h2.2.resolve_left (fun hc => ?_)⟩
    · rw [List.contains_eq_mem] at hc
      simp [hm] at hc
    · rw [hm] at hc; simp at hc
  have fin : ∀ {i j : Nat}, (bif Nat.blt j i then befB tb j i else befB tb i j) = true → (j < i → befB tb j i = true) ∧ (i < j → befB tb i j = true) := fun {i j} hb => by
    constructor
    · intro hji
      have : Nat.blt j i = true := by rw [Nat.blt_eq]; exact hji
      rw [this] at hb; exact hb
    · intro hij
      have : Nat.blt j i = false := by
        cases hbl : Nat.blt j i with
        | false => rfl
        | true => rw [Nat.blt_eq] at hbl; omega
      rw [this] at hb; exact hb
  refine ⟨fun i o ho ed hed hbd => ?_, fun i j t o ho hd hne hm => fin ((key i j t o ho hd hne).1 hm), fun i j t o ho hd hne hm => fin ((key i j t o ho hd hne).2 hm), fun i j o ho hi hb => ?_⟩
  · have h1 := List.all_eq_true.1 h i (List.mem_range.2 (hlt ho))
    rw [ho] at h1
    simp only [Bool.and_eq_true] at h1
    have h2 := List.all_eq_true.1 h1.1 ed hed
    simp only [hbd, Bool.not_true, Bool.false_or, Bool.and_eq_true, Nat.blt_eq] at h2
    exact h2
  · have h1 := List.all_eq_true.1 k j (List.mem_range.2 (hlt ho))
    rw [ho] at h1
    have h2 := List.all_eq_true.1 h1 i (List.mem_range.2 hi)
    simp only [hb, Bool.not_true, Bool.false_or] at h2
    obtain ⟨ed, hed, h3⟩ := List.any_eq_true.1 h2
    simp only [Bool.and_eq_true, Bool.or_eq_true] at h3
    exact ⟨ed, hed, h3.1, h3.2.imp Nat.eq_of_beq_eq_true id⟩
end sound
end Lg
namespace Lg
open Go Go.RowKit
variable [GLay]

section sound
variable {P : Program} {N : Nat} {ops : Array Oper} {tb : Array Nat} {Q : Env → List AO → Prop} {X : AV → List AO → Prop}

theorem ready_iff {listed : Array Bool} {i : Nat} (hs : listed.size = ops.size) : i ∈ Region.ready .any ops listed ↔ ∃ o, ops[i]? = some o ∧ listed.getD i false = false ∧ ∀ ed ∈ o.after.toList, Region.binds .any ed = true → listed.getD ed.on false = true := by
  unfold Region.ready
  simp only [List.mem_filter, List.mem_range, Bool.and_eq_true, Bool.not_eq_true']
  constructor
  · rintro ⟨h1, h2, h3⟩
    have ho := Array.getElem?_eq_getElem h1
    refine ⟨ops[i], ho, ?_, ?_⟩
    · have : listed.getD i true = listed.getD i false := by simp [hs, h1]
      rw [← this]; exact h2
    · rw [ho] at h3
      simp only [Option.map_some, Option.getD_some] at h3
      intro ed hed hb
      have := (Array.all_eq_true' ).1 h3 ed (Array.mem_toList_iff.1 hed)
      simpa [hb] using this
  · rintro ⟨o, ho, h2, h3⟩
    have h1 : i < ops.size := (Array.getElem?_eq_some_iff.1 ho).1
    refine ⟨h1, ?_, ?_⟩
    · have : listed.getD i true = listed.getD i false := by simp [hs, h1]
      rw [this]; exact h2
    · rw [ho]
      simp only [Option.map_some, Option.getD_some]
      refine (Array.all_eq_true' ).2 fun ed hed => ?_
      cases hb : Region.binds .any ed with
      | false => simp
      | true => simp [h3 ed (Array.mem_toList_iff.2 hed) hb]

structure Inv (ops : Array Oper) (N m : Nat) (E : Nat → Env) (H : Nat → List AO) (val : Nat → AV) (kd : Nat → Kd) (s0 : CS) (listed : Array Bool) (a : Act) (w : World) : Prop where
  size : listed.size = ops.size
  dn : ∀ j o, ops[j]? = some o → listed.getD j false = true → ∀ ed ∈ o.after.toList, Region.binds .any ed = true → listed.getD ed.on false = true
  lt : ∀ j, listed.getD j false = true → j < m
  st : ∃ s q, s.w = w ∧ Good s ∧ Ext s0 s ∧ q ≤ m ∧ (∀ j, j < q → kd j = .eff → listed.getD j false = true) ∧ (q < m → kd q = .eff ∧ listed.getD q false = false) ∧ s.σ = H q ∧
    a.tmps.size = N ∧ DefOK s (E 0).D a.defers ∧ ∀ t, V s (preA ops (E 0) val (fun j => listed.getD j false) ops.size t) (a.eval (.tmp t))

theorem Inv.way {m : Nat} {E : Nat → Env} {H : Nat → List AO} {val : Nat → AV} {kd : Nat → Kd} {s0 : CS} {listed : Array Bool} {a : Act} {w : World} (c : Chk ops tb) (h : Inv ops N m E H val kd s0 listed a w) :
    ∀ (j : Nat) (o : Oper), ops[j]? = some o → (∀ ed ∈ o.after.toList, Region.binds .any ed = true → listed.getD ed.on false = true) → ∀ i, i < ops.size → befB tb i j = true → listed.getD i false = true := by
  intro j
  induction j using Nat.strongRecOn with
  | _ j ih =>
    intro o ho hdeps i hi hb
    obtain ⟨ed, hed, hbd, h1⟩ := c.way i j o ho hi hb
    have hon := hdeps ed hed hbd
    rcases h1 with h1 | h1
    · rw [← h1]; exact hon
    · have hlt := (c.edge j o ho ed hed hbd).1
      have hjn : ed.on < ops.size := by have := (Array.getElem?_eq_some_iff.1 ho).1; omega
      have ho' := Array.getElem?_eq_getElem hjn
      exact ih ed.on hlt _ ho' (h.dn ed.on _ ho' hon) i hi h1

theorem set_get (listed : Array Bool) (i : Nat) (hi : i < listed.size) (j : Nat) : (listed.setIfInBounds i true).getD j false = if j = i then true else listed.getD j false := by
  simp only [Array.getD_eq_getD_getElem?, Array.getElem?_setIfInBounds]
  by_cases e : i = j
  · subst e; simp [hi]
  · have e' : ¬ j = i := fun h => e h.symm
    simp [e, e']

theorem rp_sound {m : Nat} {E : Nat → Env} {H : Nat → List AO} {val : Nat → AV} {kd : Nat → Kd} {s0 : CS} {QA' : QA} (c : Chk ops tb) (ht : Tr P N ops tb Q X 0 m E H val kd)
    (hQ : ∀ e σ, Q e σ → QA' .normal e σ) (hX : ∀ e v σ, e.D = (E 0).D → X v σ → QA' (.pan v) e σ) :
    ∀ (fuel : Nat) (listed : Array Bool) (a : Act) (w : World), Inv ops N m E H val kd s0 listed a w → (List.range ops.size).countP (fun i => !listed.getD i false) ≤ fuel →
      wpAny P .any ops (Post s0 N QA') fuel listed a w := by
  -- what the plan says of the slots
  have hlook : ∀ i, i ≤ m → ∀ t, (E i).look t = preA ops (E 0) val (fun _ => true) i t := by
    intro i
    induction i with
    | zero => intro _ t; simp [preA, lw]
    | succ i ih =>
      intro hi t
      obtain ⟨o, ho, _, hE, _⟩ := ht.step i (Nat.zero_le _) (by omega)
      rw [hE, put_look, ih (by omega) t]
      have hd : dstOf ops i = o.dst := by simp [dstOf, ho]
      simp only [preA, lw, hd, true_and]
      by_cases e : o.dst = some t
      · simp [e]
      · simp [e]
  have hD : ∀ i, i ≤ m → (E i).D = (E 0).D := by
    intro i
    induction i with
    | zero => intro _; rfl
    | succ i ih =>
      intro hi
      obtain ⟨o, ho, _, hE, _⟩ := ht.step i (Nat.zero_le _) (by omega)
      rw [hE, put_D, ih (by omega)]
  have hend : ∀ {listed : Array Bool} {a : Act} {w : World}, Inv ops N m E H val kd s0 listed a w → (∀ i, i < ops.size → listed.getD i false = true) → Post s0 N QA' .normal a w := by
    intro listed a w inv hall
    obtain ⟨s, q, hw, g, x, hq, hq1, hq2, hσ, hN, hdf, hV⟩ := inv.st
    rcases ht.fin with ⟨hm, hQm⟩ | ⟨o, v, σ', ho, _⟩
    · have hqm : q = m := by
        rcases Nat.lt_or_ge q m with h | h
        · have h1 := (hq2 h).2
          rw [hall q (by omega)] at h1; cases h1
        · omega
      subst hqm
      refine ⟨s, hw, g, x, E q, ⟨hN, by rw [hD q (Nat.le_refl _)]; exact hdf, fun t => ?_⟩, hQ _ _ (by rw [hσ]; exact hQm)⟩
      rw [hlook q (Nat.le_refl _) t]
      have h1 := hV t
      have h2 : lw ops (fun j => listed.getD j false) t ops.size = lw ops (fun _ => true) t q := by
        rw [hm]; exact lw_congr fun j hj _ => hall j hj
      unfold preA at h1 ⊢
      rw [h2] at h1
      exact h1
    · have hlt := (Array.getElem?_eq_some_iff.1 ho).1
      have := inv.lt m (hall m hlt)
      omega
  have hallOf : ∀ {listed : Array Bool} {a : Act} {w : World}, Inv ops N m E H val kd s0 listed a w → Region.ready .any ops listed = [] → ∀ i, i < ops.size → listed.getD i false = true := by
    intro listed a w inv hr i
    induction i using Nat.strongRecOn with
    | _ i ih =>
      intro hi
      cases hl : listed.getD i false with
      | true => rfl
      | false =>
        have ho := Array.getElem?_eq_getElem hi
        have : i ∈ Region.ready .any ops listed := (ready_iff inv.size).2 ⟨_, ho, hl, fun ed hed hb => by
          have h1 := (c.edge i _ ho ed hed hb).1
          exact ih ed.on h1 (by omega)⟩
        rw [hr] at this; cases this
  intro fuel
  induction fuel with
  | zero =>
    intro listed a w inv hc
    have hall : ∀ i, i < ops.size → listed.getD i false = true := fun i hi => by
      have h0 : (List.range ops.size).countP (fun i => !listed.getD i false) = 0 := by omega
      have := List.countP_eq_zero.1 h0 i (List.mem_range.2 hi)
      simpa using this
    refine ⟨?_, hend inv hall⟩
    cases hr : Region.ready .any ops listed with
    | nil => rfl
    | cons i r =>
      have : i ∈ Region.ready .any ops listed := by rw [hr]; simp
      obtain ⟨o, ho, h1, _⟩ := (ready_iff inv.size).1 this
      rw [hall i (Array.getElem?_eq_some_iff.1 ho).1] at h1; cases h1
  | succ fuel ih =>
    intro listed a w inv hc
    refine ⟨fun hr => hend inv (hallOf inv hr), fun i hi => ?_⟩
    obtain ⟨o, ho, hnl, hdeps⟩ := (ready_iff inv.size).1 hi
    have hin : i < ops.size := (Array.getElem?_eq_some_iff.1 ho).1
    have hway := inv.way c i o ho hdeps
    obtain ⟨s, q, hw, g, x, hq, hq1, hq2, hσ, hN, hdf, hV⟩ := inv.st
    subst hw
    have hdsti : dstOf ops i = o.dst := by simp [dstOf, ho]
    -- i isn't behind a panic
    have him : i ≤ m := by
      rcases ht.fin with ⟨hm, _⟩ | ⟨om, vm, σm, _, _, _, _, hafter, _⟩
      · omega
      · rcases Nat.lt_or_ge m i with h | h
        · have h1 := hway m (by omega) (hafter i h hin)
          have := inv.lt m h1
          omega
        · exact h
    -- what i looks at is as the plan has it
    have hpre : ∀ t, (t ∈ readsOf ops o) → V s ((E i).look t) (a.eval (.tmp t)) := fun t hmem => by
      rw [hlook i him t]
      have h1 := hV t
      have h2 : lw ops (fun j => listed.getD j false) t ops.size = lw ops (fun _ => true) t i := by
        rw [lw_cut (i := i) (by omega) fun j h3 h4 hd => ?_]
        · refine lw_congr fun j hj hd => ?_
          exact hway j (by omega) ((c.rd i j t o ho hd (by omega) hmem).1 hj)
        · cases hl : listed.getD j false with
          | false => rfl
          | true =>
            by_cases e : j = i
            · subst e; rw [hnl] at hl; cases hl
            · have hb := (c.rd i j t o ho hd e hmem).2 (by omega)
              have hoj := Array.getElem?_eq_getElem h4
              have := inv.way c j _ hoj (inv.dn j _ hoj hl) i hin hb
              rw [hnl] at this; cases this
      unfold preA at h1 ⊢
      rw [h2] at h1
      exact h1
    have hops : ∀ y ∈ o.op.operands, V s (opv (E i) y) (a.eval y) := fun y hy => by
      cases y with
      | tmp t =>
        refine hpre t ?_
        unfold readsOf
        refine List.mem_append_left _ (List.mem_filterMap.2 ⟨.tmp t, Array.mem_toList_iff.2 hy, rfl⟩)
      | const v => exact V_ofConst s v
      | global gg => exact .any _
      | func f => exact V.func (s := s) (.func f) [] [] [] [] rfl rfl (fun i a v h => by simp at h) (fun i a v h => by simp at h)
    have hguard : ∀ t, GuardA ops N (E i) o t → Region.wanted o (yielded ops a.tmps) = t := fun t hg => by
      unfold GuardA at hg
      unfold Region.wanted
      cases hgd : o.guard with
      | none => rw [hgd] at hg; simp [hg]
      | some jw =>
        obtain ⟨j, want⟩ := jw
        rw [hgd] at hg
        obtain ⟨d, hd1, hd2, hd3⟩ := hg
        have hmem : d ∈ readsOf ops o := by
          unfold readsOf
          refine List.mem_append_right _ ?_
          rw [hgd]
          simp [hd1]
        have hlt : d < a.tmps.size := by rw [hN]; exact hd2
        rcases hd3 with hd3 | ⟨ht, hd3⟩
        rotate_left
        · subst ht
          have h1 := (hd3 ▸ hpre d hmem).inv_undef
          simp only [Act.eval] at h1
          have h3 : a.tmps[d]? = some undef := by
            rw [Array.getD_eq_getD_getElem?, Array.getElem?_eq_getElem hlt] at h1
            rw [Array.getElem?_eq_getElem hlt]
            simpa using h1
          simp only [yielded, hd1, Option.bind_some, h3]
          simp [undef]
        have h1 := (hd3 ▸ hpre d hmem).inv_bool
        simp only [Act.eval] at h1
        have h3 : a.tmps[d]? = some (.bool (if t = true then want else !want)) := by
          rw [Array.getD_eq_getD_getElem?, Array.getElem?_eq_getElem hlt] at h1
          rw [Array.getElem?_eq_getElem hlt]
          simpa using h1
        simp only [yielded, hd1, Option.bind_some, h3]
        cases t <;> cases want <;> simp
    have hcount : (List.range ops.size).countP (fun j => !(listed.setIfInBounds i true).getD j false) ≤ fuel := by
      have hsz : i < listed.size := by rw [inv.size]; exact hin
      have := count_drop (p := fun j => !listed.getD j false) (q := fun j => !(listed.setIfInBounds i true).getD j false) (i := i) (l := List.range ops.size) List.nodup_range (List.mem_range.2 hin)
        (by simp only [hnl]; rfl) (by simp only [set_get _ _ hsz]; simp) (fun j hj => by simp only [set_get _ _ hsz]; simp [hj])
      omega
    have hsz : i < listed.size := by rw [inv.size]; exact hin
    -- behind the step
    have hnext : ∀ {s' : CS} {cv : Value} {q' : Nat}, i < m → (∀ d, o.dst = some d → d < N) → Good s' → Ext s s' → V s' (val i) cv → q' ≤ m → (∀ j, j < q' → kd j = .eff → j = i ∨ listed.getD j false = true) →
        (q' < m → kd q' = .eff ∧ q' ≠ i ∧ listed.getD q' false = false) → s'.σ = H q' → Inv ops N m E H val kd s0 (listed.setIfInBounds i true) (a.put o.dst cv) s'.w := by
      intro s' cv q' hlt hdN g' x' hv hq' hb1 hb2 hσ'
      refine ⟨by simp [inv.size], fun j oj hoj hl ed hed hb => ?_, fun j hl => ?_, s', q', rfl, g', x.trans x', hq', fun j h1 h2 => ?_, fun h1 => ?_, hσ', ?_, ?_, fun t => ?_⟩
      · rw [set_get _ _ hsz] at hl ⊢
        by_cases e : ed.on = i
        · simp [e]
        · rw [if_neg e]
          by_cases e' : j = i
          · subst e'; rw [ho] at hoj; cases hoj; exact hdeps ed hed hb
          · rw [if_neg e'] at hl; exact inv.dn j oj hoj hl ed hed hb
      · rw [set_get _ _ hsz] at hl
        by_cases e' : j = i
        · subst e'; exact hlt
        · rw [if_neg e'] at hl; exact inv.lt j hl
      · rw [set_get _ _ hsz]
        rcases hb1 j h1 h2 with e | e
        · simp [e]
        · by_cases e' : j = i
          · simp [e']
          · rw [if_neg e']; exact e
      · obtain ⟨b1, b2, b3⟩ := hb2 h1
        exact ⟨b1, by rw [set_get _ _ hsz, if_neg b2]; exact b3⟩
      · cases hd : o.dst <;> simp [Act.put, hN]
      · have := hdf.mono g x'
        cases hd : o.dst <;> simpa [Act.put] using this
      · by_cases hd : o.dst = some t
        · have h1 : lw ops (fun j => (listed.setIfInBounds i true).getD j false) t ops.size = some i := by
            refine lw_hit hin (by simp only [set_get _ _ hsz]; simp) (by rw [hdsti]; exact hd) fun j h1 h2 h3 => ?_
            simp only [set_get _ _ hsz]
            rw [if_neg (by omega)]
            cases hl : listed.getD j false with
            | false => rfl
            | true =>
              have hb := (c.wr i j t o ho h3 (by omega) hd).2 h1
              have hoj := Array.getElem?_eq_getElem h2
              have := inv.way c j _ hoj (inv.dn j _ hoj hl) i hin hb
              rw [hnl] at this; cases this
          unfold preA
          rw [h1]
          have hlt2 : t < a.tmps.size := by rw [hN]; exact hdN t hd
          have : (a.put o.dst cv).eval (.tmp t) = cv := by simp [hd, Act.put, Act.eval, hlt2]
          rw [this]; exact hv
        · have h1 : lw ops (fun j => (listed.setIfInBounds i true).getD j false) t ops.size = lw ops (fun j => listed.getD j false) t ops.size := by
            refine lw_congr fun j hj h3 => ?_
            simp only [set_get _ _ hsz]
            rw [if_neg (fun e => by subst e; rw [hdsti] at h3; exact hd h3)]
          have h2 : (a.put o.dst cv).eval (.tmp t) = a.eval (.tmp t) := by
            cases hd' : o.dst with
            | none => rfl
            | some d =>
              have : ¬ d = t := fun e => hd (by rw [hd', e])
              simp [Act.put, Act.eval, Array.getD_eq_getD_getElem?, this]
          rw [h2]
          unfold preA
          rw [h1]
          exact (hV t).mono g x'
    unfold wpOp
    rw [ho]
    simp only
    by_cases hlt : i < m
    · obtain ⟨o', ho', hdN, hE, hkp, hpu, hef, hsk⟩ := ht.step i (Nat.zero_le _) hlt
      rw [ho] at ho'; cases ho'
      cases hk : kd i with
      | pan => exact absurd hk hkp
      | skip =>
        obtain ⟨hg, hval, _⟩ := hsk hk
        rw [if_neg (by rw [hguard false hg]; simp)]
        refine ih _ _ _ (hnext (s' := s) (cv := undef) (q' := q) hlt hdN g (Ext.refl s) (by rw [hval]; exact V.undef s) hq (fun j h1 h2 => .inr (hq1 j h1 h2)) (fun h1 => ?_) hσ) hcount
        obtain ⟨b1, b2⟩ := hq2 h1
        exact ⟨b1, (fun e => by rw [e, hk] at b1; cases b1), b2⟩
      | pure =>
        obtain ⟨hg, h1, h2, h3, h4⟩ := hpu hk
        rw [if_pos (by rw [hguard true hg])]
        have hop : AOp P (H q) (E i) o (val i) (H q) := by
          rcases Nat.lt_or_ge q i with hqi | hqi
          · have hqm : q < m := by omega
            obtain ⟨b1, b2⟩ := hq2 hqm
            refine (h3 q (Nat.zero_le _) hqi b1).resolve_left fun hb => ?_
            rw [hway q (by omega) hb] at b2; cases b2
          · have hne : q ≠ i := fun e => by
              have := (hq2 (by omega)).1
              rw [e, hk] at this; cases this
            rcases exists_last (fun j => decide (kd j = .eff)) (i + 1) q (by omega) with hn | ⟨j, j1, j2, j3, j4⟩
            · have e1 := ht.hconst q (i + 1) (Nat.zero_le _) (by omega) hq (fun j h5 h6 => by have := hn j h5 h6; simpa using this)
              rw [← e1, h2]; exact h1
            · have hje : kd j = .eff := by simpa using j3
              have hjl := hq1 j j2 hje
              have e1 := ht.hconst q (j + 1) (Nat.zero_le _) (by omega) hq (fun k h5 h6 => by have := j4 k (by omega) h6; simpa using this)
              rw [← e1]
              refine (h4 j (by omega) (by omega) hje).resolve_left fun hb => ?_
              have hjn : j < ops.size := by have := ht.size; omega
              have hoj := Array.getElem?_eq_getElem hjn
              have := inv.way c j _ hoj (inv.dn j _ hoj hjl) i hin hb
              rw [hnl] at this; cases this
        refine .inl (hop s a hσ g hops _ _ (fun v cv s' hN' g' x' hv => ?_) (fun _ _ _ hx => hx.elim))
        obtain ⟨rfl, hσ'⟩ := hN'
        refine ih _ _ _ (hnext hlt hdN g' x' hv hq (fun j h5 h6 => .inr (hq1 j h5 h6)) (fun h5 => ?_) hσ') hcount
        obtain ⟨b1, b2⟩ := hq2 h5
        exact ⟨b1, (fun e => by rw [e, hk] at b1; cases b1), b2⟩
      | eff =>
        obtain ⟨hg, h1, h2⟩ := hef hk
        rw [if_pos (by rw [hguard true hg])]
        have hqi : q = i := by
          rcases Nat.lt_trichotomy q i with h | h | h
          · obtain ⟨b1, b2⟩ := hq2 (by omega)
            rw [hway q (by omega) (h2 q (Nat.zero_le _) h b1)] at b2; cases b2
          · exact h
          · rw [hq1 i h hk] at hnl; cases hnl
        subst hqi
        obtain ⟨q', n1, n2, n3, n4⟩ := exists_next (fun j => decide (kd j = .eff)) m (m - (q + 1)) (q + 1) rfl (by omega)
        have e1 := ht.hconst q' (q + 1) (Nat.zero_le _) n1 n2 (fun j h5 h6 => by have := n3 j h5 h6; simpa using this)
        refine .inl (h1 s a hσ g hops _ _ (fun v cv s' hN' g' x' hv => ?_) (fun _ _ _ hx => hx.elim))
        obtain ⟨rfl, hσ'⟩ := hN'
        refine ih _ _ _ (hnext hlt hdN g' x' hv n2 (fun j h5 h6 => ?_) (fun h5 => ?_) (by rw [hσ', e1])) hcount
        · rcases Nat.lt_trichotomy j q with h | h | h
          · exact .inr (hq1 j h h6)
          · exact .inl h
          · have := n3 j (by omega) h5
            simp [h6] at this
        · have hke : kd q' = .eff := by simpa using n4 h5
          refine ⟨hke, by omega, ?_⟩
          cases hl : listed.getD q' false with
          | false => rfl
          | true =>
            have hjn : q' < ops.size := by have := ht.size; omega
            have hoj := Array.getElem?_eq_getElem hjn
            obtain ⟨oq, _, _, _, _, _, hefq, _⟩ := ht.step q' (Nat.zero_le _) h5
            have hb := (hefq hke).2.2 q (Nat.zero_le _) (by omega) hk
            have := inv.way c q' _ hoj (inv.dn q' _ hoj hl) q hin hb
            rw [hnl] at this; cases this
    · have hie : i = m := by omega
      subst hie
      rcases ht.fin with ⟨hm, _⟩ | ⟨om, vm, σm, hom, hg, hop, hch, _, hx⟩
      · omega
      · rw [ho] at hom; cases hom
        rw [if_pos (by rw [hguard true hg])]
        have hqi : q = i := by
          rcases Nat.lt_or_ge q i with h | h
          · obtain ⟨b1, b2⟩ := hq2 h
            rw [hway q (by omega) (hch q (Nat.zero_le _) h b1)] at b2; cases b2
          · omega
        subst hqi
        refine .inl (hop s a hσ g hops _ _ (fun _ _ _ hN' => hN'.elim) (fun v cv s' hX' g' x' hv => ?_))
        obtain ⟨rfl, hσ'⟩ := hX'
        refine ⟨s', rfl, g', x.trans x', ⟨(E 0).D, []⟩, ⟨hN, hdf.mono g x', fun t => .any _⟩, rfl, v, hv, hX _ _ _ rfl (by rw [hσ']; exact hx)⟩
theorem AWp_draw {id : Nat} {e : Env} {σ : List AO} {QA' : QA} (hm : P.follows .mixedOrders = true) (h1 : rchk ops tb = true) (h2 : tbOK ops tb = true)
    (h : RP P N ops tb (fun e σ => QA' .normal e σ) (fun v σ => ∀ e' : Env, e'.D = e.D → QA' (.pan v) e' σ) 0 e σ [] []) : AWp P N (.region id ops true) e σ QA' := by
  intro s0 s a hs g x he
  obtain ⟨m, E, H, val, kd, hE, hH, ht, _⟩ := h.trace (Nat.zero_le _)
  have c := Chk.of h1 h2
  refine wp_region_any hm ?_
  obtain ⟨g', x'⟩ := g.grow (w' := { s.w with drawn := s.w.drawn + 1 }) (Below.refl _ _).drew
  refine rp_sound c ht (fun _ _ h => h) (fun e' v σ' hd hx => hx e' (by rw [hd, hE])) ops.size _ a _ ?_ ?_
  · obtain ⟨q, n1, n2, n3, n4⟩ := exists_next (fun j => decide (kd j = .eff)) m (m - 0) 0 rfl (Nat.zero_le _)
    have hrep : ∀ j : Nat, (Array.replicate ops.size false).getD j false = false := fun j => by
      simp only [Array.getD_eq_getD_getElem?, Array.getElem?_replicate]
      split <;> rfl
    refine ⟨by simp, (fun j o _ hl => by rw [hrep] at hl; cases hl), (fun j hl => by rw [hrep] at hl; cases hl), _, q, rfl, g', x.trans x', n2, (fun j h3 h4 => by have := n3 j (Nat.zero_le _) h3; simp [h4] at this), (fun h3 => ⟨by simpa using n4 h3, hrep q⟩), ?_, he.size, (by rw [hE]; exact he.defers.mono g x'), fun t => ?_⟩
    · have e1 := ht.hconst q 0 (Nat.zero_le _) (Nat.zero_le _) n2 (fun j h5 h6 => by have := n3 j h5 h6; simpa using this)
      rw [← e1, hH]; exact hs
    · have h3 : lw ops (fun j => (Array.replicate ops.size false).getD j false) t ops.size = none := by
        rw [lw_cut (i := 0) (Nat.zero_le _) fun j _ _ _ => hrep j]; rfl
      unfold preA
      rw [h3, hE]
      exact (he.tmps t).mono g x'
  · have h3 := List.countP_le_length (l := List.range ops.size) (p := fun i => !(Array.replicate ops.size false).getD i false)
    rwa [List.length_range] at h3
end sound
end Lg
namespace Lg
open Go Go.RowKit
variable [GLay]

section steps
variable {P : Program} {N : Nat} {e : Env} {σ : List AO} {Q : QA} {ops : Array Oper} {o : Oper}

def lookO : List (Nat × AV) → Nat → Option AV
  | [], _ => none
  | (k, v) :: r, t => bif Nat.beq k t then some v else lookO r t
theorem lookO_eq : ∀ {l : List (Nat × AV)} {t : Nat} {v : AV}, lookO l t = some v → lookL l t = v
  | [], t, v, h => by cases h
  | (k, u) :: r, t, v, h => by
    simp only [lookO, lookL] at h ⊢
    cases hb : Nat.beq k t with
    | true => rw [hb] at h; simpa using h
    | false => rw [hb] at h; simpa using lookO_eq h
def opO (e : Env) : Operand → Option AV
  | .tmp t => lookO e.l t
  | .const (.int k n) => some (.int k n)
  | .const (.bool b) => some (.bool b)
  | .const (.string s) => some (.str s)
  | .const (.pointer none) => some .nilp
  | .const (.slice none 0 0) => some .nils
  | .const .nilIface => some .nili
  | .const .nilFunc => some .nilf
  | .const (.map none) => some .nilm
  | .const (.agg cs) => some (.agg (cs.toList.map ofConst1))
  | .func f => some (.func (.func f) [] [])
  | _ => none
theorem opO_eq {e : Env} {x : Operand} {v : AV} (h : opO e x = some v) : opv e x = v := by
  unfold opO at h
  split at h
  · exact lookO_eq h
  all_goals first | (cases h; rfl) | cases h
section
variable {D : List (FuncId × List AV)} {l : List (Nat × AV)}
theorem st {rest : List Oper} {v : AV} {σ' : List AO} {d : Nat} (hg : o.guard = none) (hd : o.dst = some d) (hN : Nat.blt d N = true) (h : AOp P σ ⟨D, l⟩ o v σ') (k : AOps P N ops rest ⟨D, (d, v) :: l⟩ σ' Q) : AOps P N ops (o :: rest) ⟨D, l⟩ σ Q :=
  AOps_cons hg (fun t ht => by rw [hd] at ht; cases ht; rwa [Nat.blt_eq] at hN) h (by rw [hd]; exact k)
theorem stN {rest : List Oper} {v : AV} {σ' : List AO} (hg : o.guard = none) (hd : o.dst = none) (h : AOp P σ e o v σ') (k : AOps P N ops rest e σ' Q) : AOps P N ops (o :: rest) e σ Q :=
  AOps_cons hg (fun t ht => by rw [hd] at ht; cases ht) h (by rw [hd]; exact k)
theorem stR {rest : List Oper} {Nn X : AV → List AO → Prop} {d : Nat} (hg : o.guard = none) (hd : o.dst = some d) (hN : Nat.blt d N = true) (h : AOpR P σ ⟨D, l⟩ o Nn X)
    (k : ∀ v σ', Nn v σ' → AOps P N ops rest ⟨D, (d, v) :: l⟩ σ' Q) (kx : ∀ v σ', X v σ' → Q (.pan v) ⟨D, l⟩ σ') : AOps P N ops (o :: rest) ⟨D, l⟩ σ Q :=
  AOps_consR hg (fun t ht => by rw [hd] at ht; cases ht; rwa [Nat.blt_eq] at hN) h (fun v σ' hn => by rw [hd]; exact k v σ' hn) kx
theorem stG {rest : List Oper} {v : AV} {σ' : List AO} {j d t : Nat} {want : Bool} (hg : o.guard = some (j, want)) (hj : (ops[j]?).bind (·.dst) = some d) (hdN : Nat.blt d N = true) (hb : lookO l d = some (.bool want)) (hd : o.dst = some t) (hN : Nat.blt t N = true)
    (h : AOp P σ ⟨D, l⟩ o v σ') (k : AOps P N ops rest ⟨D, (t, v) :: l⟩ σ' Q) : AOps P N ops (o :: rest) ⟨D, l⟩ σ Q :=
  AOps_consG hg hj (by rwa [Nat.blt_eq] at hdN) (lookO_eq hb) (fun t ht => by rw [hd] at ht; cases ht; rwa [Nat.blt_eq] at hN) h (by rw [hd]; exact k)
theorem stS {rest : List Oper} {j d t : Nat} {want : Bool} (hg : o.guard = some (j, want)) (hj : (ops[j]?).bind (·.dst) = some d) (hdN : Nat.blt d N = true) (hb : lookO l d = some (.bool (!want)) ∨ lookO l d = some (.tup [])) (hd : o.dst = some t) (hN : Nat.blt t N = true)
    (k : AOps P N ops rest ⟨D, (t, .tup []) :: l⟩ σ Q) : AOps P N ops (o :: rest) ⟨D, l⟩ σ Q :=
  AOps_consS hg hj (by rwa [Nat.blt_eq] at hdN) (hb.imp lookO_eq lookO_eq) (fun t ht => by rw [hd] at ht; cases ht; rwa [Nat.blt_eq] at hN) (by rw [hd]; exact k)
theorem GuardA_none {t : Bool} (hg : o.guard = none) (h : t = true) : GuardA ops N e o t := by unfold GuardA; rw [hg]; exact h
theorem GuardA_some {t : Bool} {j d : Nat} {want : Bool} (hg : o.guard = some (j, want)) (hj : (ops[j]?).bind (·.dst) = some d) (hdN : Nat.blt d N = true) (hb : lookO e.l d = some (.bool (if t = true then want else !want))) : GuardA ops N e o t := by
  unfold GuardA; rw [hg]; exact ⟨d, hj, by rwa [Nat.blt_eq] at hdN, .inl (lookO_eq hb)⟩
theorem GuardA_skip {j d : Nat} {want : Bool} (hg : o.guard = some (j, want)) (hj : (ops[j]?).bind (·.dst) = some d) (hdN : Nat.blt d N = true) (hb : lookO e.l d = some (.bool (!want)) ∨ lookO e.l d = some (.tup [])) : GuardA ops N e o false := by
  unfold GuardA; rw [hg]; exact ⟨d, hj, by rwa [Nat.blt_eq] at hdN, hb.imp (fun h => by rw [if_neg (by decide)]; exact lookO_eq h) fun h => ⟨rfl, lookO_eq h⟩⟩
variable {tb : Array Nat} {QR : Env → List AO → Prop} {X : AV → List AO → Prop} {i : Nat} {past : List (Nat × List AO)} {held : List (Nat × (List AO → Prop))}
theorem rA {v : AV} {d : Nat} (ho : ops[i]? = some o) (hg : o.guard = none) (hd : o.dst = some d) (hN : Nat.blt d N = true) (h : ∀ σ, AOp P σ ⟨D, l⟩ o v σ) (k : RP P N ops tb QR X (i + 1) ⟨D, (d, v) :: l⟩ σ past held) : RP P N ops tb QR X i ⟨D, l⟩ σ past held :=
  .all o v ho (GuardA_none hg rfl) (fun t ht => by rw [hd] at ht; cases ht; rwa [Nat.blt_eq] at hN) h (by rw [hd]; exact k)
theorem rAG {v : AV} {d j t : Nat} {want : Bool} (ho : ops[i]? = some o) (hg : o.guard = some (j, want)) (hj : (ops[j]?).bind (·.dst) = some t) (htN : Nat.blt t N = true) (hb : lookO l t = some (.bool want)) (hd : o.dst = some d) (hN : Nat.blt d N = true) (h : ∀ σ, AOp P σ ⟨D, l⟩ o v σ) (k : RP P N ops tb QR X (i + 1) ⟨D, (d, v) :: l⟩ σ past held) : RP P N ops tb QR X i ⟨D, l⟩ σ past held :=
  .all o v ho (GuardA_some hg hj htN (by simpa using hb)) (fun t ht => by rw [hd] at ht; cases ht; rwa [Nat.blt_eq] at hN) h (by rw [hd]; exact k)
theorem rP {v : AV} {d : Nat} (ho : ops[i]? = some o) (hg : o.guard = none) (hd : o.dst = some d) (hN : Nat.blt d N = true) (h : AOp P σ ⟨D, l⟩ o v σ) (hp : PastOK P tb i ⟨D, l⟩ o v past) (k : RP P N ops tb QR X (i + 1) ⟨D, (d, v) :: l⟩ σ past ((i, fun σ' => AOp P σ' ⟨D, l⟩ o v σ') :: held)) : RP P N ops tb QR X i ⟨D, l⟩ σ past held :=
  .pure o v ho (GuardA_none hg rfl) (fun t ht => by rw [hd] at ht; cases ht; rwa [Nat.blt_eq] at hN) h hp (by rw [hd]; exact k)
theorem rPG {v : AV} {d j t : Nat} {want : Bool} (ho : ops[i]? = some o) (hg : o.guard = some (j, want)) (hj : (ops[j]?).bind (·.dst) = some t) (htN : Nat.blt t N = true) (hb : lookO l t = some (.bool want)) (hd : o.dst = some d) (hN : Nat.blt d N = true) (h : AOp P σ ⟨D, l⟩ o v σ) (hp : PastOK P tb i ⟨D, l⟩ o v past) (k : RP P N ops tb QR X (i + 1) ⟨D, (d, v) :: l⟩ σ past ((i, fun σ' => AOp P σ' ⟨D, l⟩ o v σ') :: held)) : RP P N ops tb QR X i ⟨D, l⟩ σ past held :=
  .pure o v ho (GuardA_some hg hj htN (by simpa using hb)) (fun t ht => by rw [hd] at ht; cases ht; rwa [Nat.blt_eq] at hN) h hp (by rw [hd]; exact k)
theorem rE {v : AV} {d : Nat} {σ' : List AO} (ho : ops[i]? = some o) (hg : o.guard = none) (hd : o.dst = some d) (hN : Nat.blt d N = true) (h : AOp P σ ⟨D, l⟩ o v σ') (hh : HeldOK tb i σ' held) (hc : ChainOK tb i past) (k : RP P N ops tb QR X (i + 1) ⟨D, (d, v) :: l⟩ σ' ((i, σ) :: past) held) : RP P N ops tb QR X i ⟨D, l⟩ σ past held :=
  .eff o v σ' ho (GuardA_none hg rfl) (fun t ht => by rw [hd] at ht; cases ht; rwa [Nat.blt_eq] at hN) h hh hc (by rw [hd]; exact k)
theorem rS {d j t : Nat} {want : Bool} (ho : ops[i]? = some o) (hg : o.guard = some (j, want)) (hj : (ops[j]?).bind (·.dst) = some t) (htN : Nat.blt t N = true) (hb : lookO l t = some (.bool (!want)) ∨ lookO l t = some (.tup [])) (hd : o.dst = some d) (hN : Nat.blt d N = true) (k : RP P N ops tb QR X (i + 1) ⟨D, (d, .tup []) :: l⟩ σ past held) : RP P N ops tb QR X i ⟨D, l⟩ σ past held :=
  .skip o ho (GuardA_skip hg hj htN hb) (fun t ht => by rw [hd] at ht; cases ht; rwa [Nat.blt_eq] at hN) (by rw [hd]; exact k)
theorem AWp_drawL {id : Nat} {ol : List Oper} {QA' : QA} (tb : Array Nat) (hm : P.follows .mixedOrders = true) (h1 : rchk ol.toArray tb = true) (h2 : tbOK ol.toArray tb = true)
    (h : RP P N ol.toArray tb (fun e σ => QA' .normal e σ) (fun v σ => ∀ e' : Env, e'.D = e.D → QA' (.pan v) e' σ) 0 e σ [] []) : AWp P N (.region id ol.toArray true) e σ QA' := AWp_draw hm h1 h2 h
end
theorem op_fieldAddrO {T : TypeId} {x : Operand} {f n fo : Nat} {fs : Array Field} {fd : Field} {v : AV} (ho : o.op = .fieldAddr T x f) (hu : P.underlying T = some (.struct fs)) (hf : fs[f]? = some fd)
    (hfo : fd.offset = fo) (hz : ∀ w, (Go.sizeOf fd.type).run P w = Result.ok n w) (hn : n ≠ 0) (hx : offv fo (opv e x) = some v) (hfr : fresh σ (opv e x)) : AOp P σ e o v σ :=
  op_fieldAddr ho hu hf hz hn (by rw [hfo]; exact hx) hfr
theorem AWp_regL {id : Nat} {l : List Oper} (h : AOps P N l.toArray l e σ Q) : AWp P N (.region id l.toArray false) e σ Q := AWp_region h
theorem op_moveO {x : Operand} {v : AV} (ho : o.op = .move x) (hx : opO e x = some v) : AOp P σ e o v σ := op_move ho (opO_eq hx)
theorem op_assignO {x : Operand} {v : AV} (ho : o.op = .assign x) (hx : opO e x = some v) : AOp P σ e o v σ := op_assign ho (opO_eq hx)
theorem op_pickTO {c x y : Operand} {v : AV} (ho : o.op = .pick c x y) (hc : opv e c = .bool true) (hv : opO e x = some v) : AOp P σ e o v σ := op_pick ho hc (by simpa using opO_eq hv)
theorem op_pickFO {c x y : Operand} {v : AV} (ho : o.op = .pick c x y) (hc : opv e c = .bool false) (hv : opO e y = some v) : AOp P σ e o v σ := op_pick ho hc (by simpa using opO_eq hv)
def isStr : AV → Bool
  | .str _ => true
  | _ => false
theorem op_lenS {T E : TypeId} {x : Operand} {n : Int} {c : Array TypeId} (ho : o.op = .call { callee := .builtin .len, args := #[x], argTypes := c }) (hc : c[0]? = some T) (hu : P.underlying T = some (.slice E))
    (hx : lenv (opv e x) = some n) (hns : isStr (opv e x) = false) (hfr : fresh σ (opv e x)) : AOp P σ e o (.int .i64 n) σ :=
  op_lenSl ho hc hu hx (fun b h => by rw [h] at hns; cases hns) hfr
section ints
variable {T T' : TypeId} {x y : Operand} {k : IntKind} {a b : Int}
theorem op_eqlT (ho : o.op = .binOp .eql T x y T') (hx : opv e x = .int k a) (hy : opv e y = .int k b) (h : a = b) : AOp P σ e o (.bool true) σ := by
  have := op_eql (P := P) (σ := σ) ho hx hy; rwa [decide_eq_true h] at this
end ints
section strs
variable {T T' : TypeId} {x y : Operand} {a b : ByteArray}
end strs

theorem get_own {σ l : List AO} (k : Nat) : (σ ++ l)[σ.length + k]? = l[k]? := by
  rw [List.getElem?_append_right (by omega)]; congr 1; omega
theorem get_old {σ l : List AO} {p : Nat} {x : AO} (h : σ[p]? = some x) : (σ ++ l)[p]? = some x := by
  rw [List.getElem?_append_left (List.getElem?_eq_some_iff.1 h).1]; exact h
theorem set_own {σ l : List AO} (k : Nat) (x : AO) : (σ ++ l).set (σ.length + k) x = σ ++ l.set k x := by
  rw [List.set_append_right _ _ (by omega)]; congr 2; omega
theorem ldv_own {σ l : List AO} {k off n : Nat} {cs r : List AV} (h : l[k]? = some (.box cs)) (hr : tk n (cs.drop off) = some r) : ldv (σ ++ l) n (.ptr (σ.length + k) off) = some r := by
  simp only [ldv, get_own, h, hr]
theorem ldv_old {σ l : List AO} {p off n : Nat} {cs r : List AV} (h : σ[p]? = some (.box cs)) (hr : tk n (cs.drop off) = some r) : ldv (σ ++ l) n (.ptr p off) = some r := by
  simp only [ldv, get_old h, hr]
theorem ldv_ptr {σ : List AO} {p off n : Nat} {cs r : List AV} (h : σ[p]? = some (.box cs)) (hr : tk n (cs.drop off) = some r) : ldv σ n (.ptr p off) = some r := by
  simp only [ldv, h, hr]
theorem ldv_pp {σ : List AO} {n : Nat} {cs r : List AV} (hr : tk n cs = some r) : ldv σ n (.pp cs) = some r := hr
theorem stv_own {σ l : List AO} {k off : Nat} {cs ns r : List AV} (h : l[k]? = some (.box cs)) (hr : spl off cs ns = some r) : stv (σ ++ l) ns (.ptr (σ.length + k) off) = some (σ.length + k, .box r) := by
  simp only [stv, get_own, h, hr, Option.map_some]
theorem stv_ptr {σ : List AO} {p off : Nat} {cs ns r : List AV} (h : σ[p]? = some (.box cs)) (hr : spl off cs ns = some r) : stv σ ns (.ptr p off) = some (p, .box r) := by
  simp only [stv, h, hr, Option.map_some]

theorem op_box0 {T : TypeId} {x : Operand} {cs : List AV} (ho : o.op = .box T x) (hx : (opv e x).cells = cs) (h1 : ones cs = true) : AOp P σ e o (.ptr (σ.length + 0) 0) (σ ++ [.box cs]) := op_box ho hx h1
theorem op_boxO {σ l : List AO} {T : TypeId} {x : Operand} {cs : List AV} (n : Nat) (hn : l.length = n) (ho : o.op = .box T x) (hx : (opv e x).cells = cs) (h1 : ones cs = true) : AOp P (σ ++ l) e o (.ptr (σ.length + n) 0) (σ ++ (l ++ [.box cs])) := by
  have := op_box (P := P) (σ := σ ++ l) ho hx h1
  rwa [List.length_append, hn, List.append_assoc] at this
theorem op_alloc0 {T : TypeId} {z : Value} {cs : List AV} (ho : o.op = .alloc T) (hz : ∀ w, (zeroValue T).run P w = Result.ok z w) (hx : z.cells.toList.map ofConst1 = cs) : AOp P σ e o (.ptr (σ.length + 0) 0) (σ ++ [.box cs]) := op_alloc ho hz hx
theorem op_allocO {σ l : List AO} {T : TypeId} {z : Value} {cs : List AV} (n : Nat) (hn : l.length = n) (ho : o.op = .alloc T) (hz : ∀ w, (zeroValue T).run P w = Result.ok z w) (hx : z.cells.toList.map ofConst1 = cs) : AOp P (σ ++ l) e o (.ptr (σ.length + n) 0) (σ ++ (l ++ [.box cs])) := by
  have := op_alloc (P := P) (σ := σ ++ l) (e := e) ho hz hx
  rwa [List.length_append, hn, List.append_assoc] at this
theorem op_storeO {σ l : List AO} {T : TypeId} {x y : Operand} {n k off : Nat} {cs r : List AV} (ho : o.op = .store T x y) (hz : ∀ w, (Go.sizeOf T).run P w = Result.ok n w) (hn : (opv e y).cells.length = n)
    (h1 : ones (opv e y).cells = true) (hx : opv e x = .ptr (σ.length + k) off) (hl : l[k]? = some (.box cs)) (hr : spl off cs (opv e y).cells = some r) (hn0 : n ≠ 0) : AOp P (σ ++ l) e o .any (σ ++ l.set k (.box r)) := by
  have := op_store (P := P) (σ := σ ++ l) ho hz hn h1 (by rw [hx]; exact stv_own hl hr) hn0
  rwa [set_own] at this
theorem op_storeP {T : TypeId} {x y : Operand} {n p off : Nat} {cs r : List AV} (ho : o.op = .store T x y) (hz : ∀ w, (Go.sizeOf T).run P w = Result.ok n w) (hn : (opv e y).cells.length = n)
    (h1 : ones (opv e y).cells = true) (hx : opv e x = .ptr p off) (hl : σ[p]? = some (.box cs)) (hr : spl off cs (opv e y).cells = some r) (hn0 : n ≠ 0) : AOp P σ e o .any (σ.set p (.box r)) :=
  op_store (P := P) ho hz hn h1 (by rw [hx]; exact stv_ptr hl hr) hn0
end steps
end Lg
namespace Lg
open Go Go.RowKit
variable [GLay]

section ghost
variable {P : Program} {N : Nat} {e : Env} {σ : List AO} {Q : QA} {ops : Array Oper} {o : Oper}

def ownLt (n : Nat) : List AO → Prop
  | [] => True
  | o :: r => AV.ltL n o.cells ∧ ownLt n r
theorem ownLt.get {n : Nat} : ∀ {l : List AO}, ownLt n l → ∀ (p : Nat) (o : AO), l[p]? = some o → AV.ltL n o.cells
  | [], _, p, o, h => by simp at h
  | a :: r, ⟨h1, h2⟩, p, o, h => by
    cases p with
    | zero => simp at h; subst h; exact h1
    | succ p => simp at h; exact ownLt.get h2 p o h
theorem closed_own {l : List AO} (k : Nat) (h : closed σ.length σ) (hl : ownLt (σ.length + k) (l.take k)) : closed (σ.length + k) (σ ++ l) := fun p o hp ho => by
  rcases Nat.lt_or_ge p σ.length with h1 | h1
  · rw [List.getElem?_append_left h1] at ho
    exact AV.ltL_mono (by omega) _ (h p o h1 ho)
  · rw [List.getElem?_append_right h1] at ho
    exact hl.get (p - σ.length) o (by rw [List.getElem?_take, if_pos (by omega)]; exact ho)
theorem closed_old {l : List AO} (h : closed σ.length σ) : closed σ.length (σ ++ l) := closed_own 0 h (by simp [ownLt])
theorem closed_set {p n : Nat} {x : AO} (h : closed n σ) (hx : AV.ltL n x.cells) : closed n (σ.set p x) := fun q o hq ho => by
  rw [List.getElem?_set] at ho
  split at ho
  · split at ho
    · cases ho; exact hx
    · cases ho
  · exact h q o hq ho
theorem take_own {l : List AO} (k : Nat) : (σ ++ l).take (σ.length + k) = σ ++ l.take k := by
  rw [List.take_append, List.take_of_length_le (by omega)]; congr 2; omega
theorem take_old {l : List AO} : (σ ++ l).take σ.length = σ := by simp

theorem put_self {a : Act} {t : Nat} (hlt : t < a.tmps.size) : a.put (some t) (a.eval (.tmp t)) = a := by
  cases a with
  | mk tmps defers =>
    have h2 : tmps.setIfInBounds t (tmps.getD t undef) = tmps := by
      apply Array.ext
      · simp
      · intro i h1 h2
        rw [Array.getElem_setIfInBounds]
        split
        · rename_i e; subst e; simp [Array.getD_eq_getD_getElem?, h2]
        · rfl
    simp only [Act.put, Act.eval, h2]
theorem freezeArr_V {s : CS} (g : Good s) {p gg sz off len : Nat} {cs : List AV} {c : Value} (hσ : s.σ[p]? = some (.arr sz gg cs)) (hv : V s (.arr p gg sz off len) c) (es : List (List AV)) (hes : es.flatten = (cs.drop (off * sz)).take (len * sz))
    (hel : ∀ r ∈ es, r.length = sz) (hlen : es.length = len) (hsz : sz ≠ 0) (hfit : (off + len) * sz ≤ cs.length) :
    ∃ s', s'.σ = s.σ.set p .dead ∧ s'.w = s.w ∧ Good s' ∧ Ext s s' ∧ V s' (.sl false sz es) c := by
  have hnil : ∀ {s' : CS} {ad : Option Addr}, len = 0 → V s' (.sl false sz es) (.slice ad 0 0) := fun {s' ad} h0 => by
    have he0 : es = [] := List.eq_nil_of_length_eq_zero (by omega)
    subst he0
    exact .sl0 false sz ad
  obtain ⟨_, ⟨ad, rfl, h0⟩ | ⟨cap, rfl, h4, h5⟩⟩ := hv.inv_arr hσ
  · by_cases hlive : s.live p
    · obtain ⟨s', e1, e2, g', x', hok, hμ⟩ := g.freeze hσ hlive (o' := .dead) (.inr ⟨rfl, rfl⟩)
      exact ⟨s', e1, e2, g', x', hnil h0⟩
    · obtain ⟨s', e1, e2, g', x'⟩ := g.kill hσ hlive
      exact ⟨s', e1, e2, g', x', hnil h0⟩
  · by_cases hlive : s.live p
    · obtain ⟨_, vs, T, hb, ht0, h7, h8, hpv⟩ := g.rep hσ hlive
      obtain ⟨s', e1, e2, g', x', hok, hμ⟩ := g.freeze hσ hlive (o' := .dead) (.inr ⟨rfl, rfl⟩)
      refine ⟨s', e1, e2, g', x', ?_⟩
      have hpw := ((hpv.drop (off * sz)).take (len * sz)).mono g x'
      rw [← hes] at hpw
      subst hlen
      refine .sl false sz es _ _ cap _ (.inr hok) hel hpw.1 (fun i v hi => ?_) hpw.2 h4 (by simp)
      rw [List.getElem?_take] at hi
      split at hi
      · rw [List.getElem?_drop, List.getElem?_take] at hi
        split at hi
        · rw [List.getElem?_drop] at hi
          rw [e2, cells_get hb, Nat.add_assoc]; exact hi
        · cases hi
      · cases hi
    · have ht : (s.μ p).tot = 0 := by
        unfold CS.live at hlive; rw [hσ] at hlive
        exact Decidable.not_not.1 hlive
      have hcap : cap = 0 := by
        have h6 : (off + cap) * sz = 0 := by omega
        rcases Nat.mul_eq_zero.1 h6 with h | h
        · omega
        · exact absurd h hsz
      have hl0 : len = 0 := by omega
      obtain ⟨s', e1, e2, g', x'⟩ := g.kill hσ hlive
      subst hl0; subst hcap
      exact ⟨s', e1, e2, g', x', hnil rfl⟩
theorem AWp_freezeArr {c : Code} (t p gg sz off len : Nat) {cs : List AV} (hl : lookO e.l t = some (.arr p gg sz off len)) (hσ : σ[p]? = some (.arr sz gg cs)) (es : List (List AV)) (hes : es.flatten = (cs.drop (off * sz)).take (len * sz))
    (hel : ∀ r ∈ es, r.length = sz) (hlen : es.length = len) (hsz : sz ≠ 0) (hfit : (off + len) * sz ≤ cs.length) (k : AWp P N c (e.put (some t) (.sl false sz es)) (σ.set p .dead) Q) (ht : t < N) : AWp P N c e σ Q := fun s0 s a hs g x he => by
  subst hs
  have hv := he.tmps t
  rw [show e.look t = .arr p gg sz off len from lookO_eq hl] at hv
  obtain ⟨s', e1, e2, g', x', hv'⟩ := freezeArr_V g hσ hv es hes hel hlen hsz hfit
  have := k s0 s' a e1 g' (x.trans x') (by
    have h1 := (he.mono g x').put (some t) hv' (fun d hd => by cases hd; exact ht)
    rwa [put_self (by rw [he.size]; exact ht)] at h1)
  rwa [e2] at this
end ghost
end Lg
namespace Lg
open Go Go.RowKit
variable [GLay]

variable {P : Program} {N : Nat} {σ : List AO} {e : Env} {Q : QA} {ops : Array Oper} {o : Oper}

section split
variable {D : List (FuncId × List AV)} {l : List (Nat × AV)} {b : Bool}
theorem bool_split {G : Prop} (b : Bool) (kt : b = true → G) (kf : b = false → G) : G := by
  cases b
  · exact kf rfl
  · exact kt rfl
theorem AOps_split {rest : List Oper} (d : Nat) (hb : lookO l d = some (.bool b)) (kt : b = true → AOps P N ops rest ⟨D, l⟩ σ Q) (kf : b = false → AOps P N ops rest ⟨D, l⟩ σ Q) : AOps P N ops rest ⟨D, l⟩ σ Q := bool_split b kt kf
theorem AWp_condT {x : Operand} {c d : Code} (hb : opO e x = some (.bool true)) (h : AWp P N c e σ Q) : AWp P N (.cond x c d) e σ Q := AWp_cond (opO_eq hb) (fun _ => h) (fun h => by cases h)
theorem AWp_condF {x : Operand} {c d : Code} (hb : opO e x = some (.bool false)) (h : AWp P N d e σ Q) : AWp P N (.cond x c d) e σ Q := AWp_cond (opO_eq hb) (fun h => by cases h) (fun _ => h)
end split

def AVle (a b : AV) : Prop := ∀ (s : CS) (v : Value), V s a v → V s b v
theorem AVle.refl (a : AV) : AVle a a := fun _ _ h => h
theorem AVle.trans {a b c : AV} (h : AVle a b) (k : AVle b c) : AVle a c := fun s v x => k s v (h s v x)
theorem AVle.nils (f : Bool) (sz : Nat) : AVle .nils (.sl f sz []) := fun s v h => by rw [h.inv_nils]; exact .sl0 f sz none
theorem AVle.any (a : AV) : AVle a .any := fun _ v _ => .any v
theorem AVle.full (sz : Nat) (es : List (List AV)) : AVle (.sl true sz es) (.sl false sz es) := fun s v h => by
  cases h with
  | sl _ _ _ b off cap vs hok hsz hl hc hv hcap hf => exact .sl false sz es b off cap vs hok hsz hl hc hv hcap (by simp)
  | sl0 _ _ ad => exact .sl0 false sz ad
def AVleL : List AV → List AV → Prop
  | [], [] => True
  | a :: l, b :: r => AVle a b ∧ AVleL l r
  | _, _ => False
theorem AVleL.refl : ∀ l : List AV, AVleL l l
  | [] => trivial
  | a :: l => ⟨AVle.refl a, AVleL.refl l⟩
theorem AVleL.len : ∀ {l r : List AV}, AVleL l r → l.length = r.length
  | [], [], _ => rfl
  | _ :: _, _ :: _, h => by simp [h.2.len]
  | [], _ :: _, h => h.elim
  | _ :: _, [], h => h.elim
theorem AVleL.get : ∀ {l r : List AV}, AVleL l r → ∀ {i : Nat} {a b : AV}, l[i]? = some a → r[i]? = some b → AVle a b
  | [], [], _, i, a, b, h, _ => by simp at h
  | x :: l, y :: r, hh, i, a, b, h, k => by
    cases i with
    | zero => simp at h k; subst h; subst k; exact hh.1
    | succ i => simp at h k; exact hh.2.get h k
  | [], _ :: _, h, _, _, _, _, _ => h.elim
  | _ :: _, [], h, _, _, _, _, _ => h.elim
theorem AVleL.pw {l r : List AV} (h : AVleL l r) {s : CS} {vs : List Value} (k : PW s l vs) : PW s r vs :=
  ⟨k.1.trans h.len, fun i c v h1 h2 => by
    have hi : i < l.length := by rw [h.len]; exact (List.getElem?_eq_some_iff.1 h1).1
    exact h.get (List.getElem?_eq_getElem hi) h1 s v (k.2 i _ v (List.getElem?_eq_getElem hi) h2)⟩
theorem AVle.agg {l r : List AV} (h : AVleL l r) : AVle (.agg l) (.agg r) := fun s v x => by
  obtain ⟨vs, rfl, hp⟩ := x.inv_agg
  have := h.pw hp
  exact .agg _ vs this.1 this.2
theorem AVle.tup {l r : List AV} (h : AVleL l r) : AVle (.tup l) (.tup r) := fun s v x => by
  obtain ⟨vs, rfl, hp⟩ := x.inv_tup
  have := h.pw hp
  exact .tup _ vs this.1 this.2
theorem AVle.sl {f : Bool} {sz : Nat} {es es' : List (List AV)} (h : AVleL es.flatten es'.flatten) (hl : es.length = es'.length) (hs : ∀ r ∈ es', r.length = sz) : AVle (.sl f sz es) (.sl f sz es') := fun s v x => by
  cases x with
  | sl _ _ _ b off cap vs hok hsz hl' hc hv hcap hf =>
    have hp := h.pw (vs := vs) (s := s) ⟨hl', hv⟩
    rw [hl]
    refine .sl f sz es' b off cap vs ?_ hs hp.1 hc hp.2 (by omega) (fun h => by rw [hf h, hl])
    rcases hok with rfl | hok
    · left; cases es' with
      | nil => rfl
      | cons => simp at hl
    · exact .inr hok
  | sl0 _ _ ad =>
    cases es' with
    | nil => exact .sl0 f sz ad
    | cons => simp at hl
theorem ACalls.conv {f : FuncId} {args args' : List AV} {R : Out → List AO → Prop} (h : AVleL args args') (k : ACalls P f args' σ R) : ACalls P f args σ R := fun s cargs hs g hp => k s cargs hs g (h.pw hp)
def notNil : AV → Bool
  | .ptr _ _ | .pp _ => true
  | _ => false
theorem op_nilCheck {x : Operand} {v : AV} (ho : o.op = .nilCheck x) (hx : opO e x = some v) (hn : notNil v = true) : AOp P σ e o v σ :=
  .of_run fun s a hs _ hv => by
    have h1 := (opO_eq hx) ▸ hv x (by simp [ho, Op.operands])
    refine ⟨a.eval x, ?_, h1⟩
    cases v with
    | ptr p off => have h2 := h1.inv_ptr; simp [execOp, ho, h2]
    | pp cs => obtain ⟨b, off, vs, h2, _⟩ := h1.inv_pp; simp [execOp, ho, h2]
    | _ => cases hn
theorem op_convInt {S T : TypeId} {x : Operand} {k k' : IntKind} {n : Int} (ho : o.op = .convert S T x) (hs : (P.underlying S).isSome = true) (hd : P.underlying T = some (.int k')) (hx : opv e x = .int k n) : AOp P σ e o (.int k' (k'.wrap n)) σ :=
  .of_run fun s a _ _ hv => by
    have h1 := (hx ▸ hv x (by simp [ho, Op.operands])).inv_int
    obtain ⟨d, hd'⟩ := Option.isSome_iff_exists.mp hs
    exact ⟨_, by simp [execOp, ho, h1, convert, run_underlying hd', run_underlying hd, Conv.intToInt], .int _ _⟩
theorem op_convIn {S T : TypeId} {x : Operand} {k k' : IntKind} {n : Int} (ho : o.op = .convert S T x) (hs : (P.underlying S).isSome = true) (hd : P.underlying T = some (.int k')) (hx : opv e x = .int k n) (hn : k'.wrap n = n) : AOp P σ e o (.int k' n) σ := by
  have := op_convInt (P := P) (σ := σ) ho hs hd hx; rwa [hn] at this
theorem op_convStr {S T : TypeId} {x : Operand} {a : ByteArray} (ho : o.op = .convert S T x) (hs : P.underlying S = some .string) (hd : P.underlying T = some .string) (hx : opv e x = .str a) : AOp P σ e o (.str a) σ :=
  .of_run fun s ac _ _ hv => by
    have h1 := (hx ▸ hv x (by simp [ho, Op.operands])).inv_str
    exact ⟨_, by simp [execOp, ho, h1, convert, run_underlying hs, run_underlying hd], .str _⟩
theorem op_max2 {T : Array TypeId} {x y : Operand} {k : IntKind} {a b : Int} (ho : o.op = .call { callee := .builtin .max, args := #[x, y], argTypes := T }) (hx : opv e x = .int k a) (hy : opv e y = .int k b) : AOp P σ e o (.int k (max a b)) σ :=
  .of_run fun s ac _ _ hv => by
    have h1 := (hx ▸ hv x (by simp [ho, Op.operands, Call.operands])).inv_int
    have h2 := (hy ▸ hv y (by simp [ho, Op.operands, Call.operands])).inv_int
    refine ⟨.int k (if b > a then b else a), by simp [execOp, ho, resolve, invoke, builtin, h1, h2, Builtin.max_, Builtin.max2], ?_⟩
    have : max a b = if b > a then b else a := by
      split <;> omega
    rw [this]; exact .int _ _
theorem op_min2 {T : Array TypeId} {x y : Operand} {k : IntKind} {a b : Int} (ho : o.op = .call { callee := .builtin .min, args := #[x, y], argTypes := T }) (hx : opv e x = .int k a) (hy : opv e y = .int k b) : AOp P σ e o (.int k (min a b)) σ :=
  .of_run fun s ac _ _ hv => by
    have h1 := (hx ▸ hv x (by simp [ho, Op.operands, Call.operands])).inv_int
    have h2 := (hy ▸ hv y (by simp [ho, Op.operands, Call.operands])).inv_int
    refine ⟨.int k (if b < a then b else a), by simp [execOp, ho, resolve, invoke, builtin, h1, h2, Builtin.min_, Builtin.min2], ?_⟩
    have : min a b = if b < a then b else a := by
      split <;> omega
    rw [this]; exact .int _ _
inductive FEq (P : Program) : Nat → List Field → List AV → List AV → Bool → Prop
  | nil (k) : FEq P k [] [] [] true
  | str (k f fs a b cs ds r) (hn : f.name ≠ "_") (ho : f.offset = k) (hu : P.underlying f.type = some .string) (h : FEq P (k + 1) fs cs ds r) : FEq P k (f :: fs) (.str a :: cs) (.str b :: ds) (decide (a = b) && r)
  | int (k f fs K K' a b cs ds r) (hn : f.name ≠ "_") (ho : f.offset = k) (hu : P.underlying f.type = some (.int K')) (h : FEq P (k + 1) fs cs ds r) : FEq P k (f :: fs) (.int K a :: cs) (.int K b :: ds) (decide (a = b) && r)
  | bool (k f fs) (a b : Bool) (cs ds r) (hn : f.name ≠ "_") (ho : f.offset = k) (hu : P.underlying f.type = some .bool) (h : FEq P (k + 1) fs cs ds r) : FEq P k (f :: fs) (.bool a :: cs) (.bool b :: ds) (decide (a = b) && r)
theorem FEq.run {k : Nat} {fs : List Field} {cs ds : List AV} {r : Bool} (h : FEq P k fs cs ds r) (d : Nat) (s : CS) (pc pd : List AV) (xs ys : List Value) (hc : PW s (pc ++ cs) xs) (hd : PW s (pd ++ ds) ys) (lc : pc.length = k) (ld : pd.length = k) :
    (Op.eqFields (d + 1) xs.toArray ys.toArray fs).run P s.w = .ok r s.w := by
  have hpart : ∀ {t : TypeId} {off : Nat} {l : List Value} {v : Value} {dd : TypeDesc}, P.underlying t = some dd → (match dd with | .string | .int _ | .bool => True | _ => False) → l[off]? = some v → (part t l.toArray off).run P s.w = .ok v s.w := fun {t off l v dd} hu hdd hl => by
    have hl' : l.toArray[off]? = some v := by simpa using hl
    cases dd <;> first | exact hdd.elim | simp [part, isAgg, run_underlying hu, hl']
  have hcell : ∀ {p : List AV} {c : AV} {q : List AV} {l : List Value}, PW s (p ++ c :: q) l → ∃ v, l[p.length]? = some v ∧ V s c v := fun {p c q l} hp => by
    obtain ⟨v, h1, h2⟩ := hp.get (i := p.length) (c := c) (by simp)
    exact ⟨v, h1, h2⟩
  induction h generalizing pc pd with
  | nil k => simp [Op.eqFields]
  | str k f fs a b cs ds r hn ho hu h ih =>
    obtain ⟨v, h1, h2⟩ := hcell hc
    obtain ⟨u, h3, h4⟩ := hcell hd
    rw [lc] at h1; rw [ld] at h3
    have ih' := ih (pc ++ [.str a]) (pd ++ [.str b]) (by simpa using hc) (by simpa using hd) (by simp [lc]) (by simp [ld])
    have e1 := h2.inv_str; have e2 := h4.inv_str
    subst e1; subst e2
    simp only [Op.eqFields, hn, ne_eq, not_false_eq_true, if_true, Sem.run_bind, ho, hpart hu trivial h1, hpart hu trivial h3, Result.andThen_ok, run_equalIn_string s.w d f.type a b hu]
    have hab : (a.toList == b.toList) = decide (a = b) := ba_beq a b
    rw [hab]
    by_cases hab' : a = b
    · simp [hab', ih']
    · simp [hab']
  | int k f fs K K' a b cs ds r hn ho hu h ih =>
    obtain ⟨v, h1, h2⟩ := hcell hc
    obtain ⟨u, h3, h4⟩ := hcell hd
    rw [lc] at h1; rw [ld] at h3
    have ih' := ih (pc ++ [.int K a]) (pd ++ [.int K b]) (by simpa using hc) (by simpa using hd) (by simp [lc]) (by simp [ld])
    have e1 := h2.inv_int; have e2 := h4.inv_int
    subst e1; subst e2
    simp only [Op.eqFields, hn, ne_eq, not_false_eq_true, if_true, Sem.run_bind, ho, hpart hu trivial h1, hpart hu trivial h3, Result.andThen_ok, run_equalIn_int s.w d f.type K K' a b hu]
    by_cases hab' : a = b
    · simp [hab', ih']
    · simp [hab']
  | bool k f fs a b cs ds r hn ho hu h ih =>
    obtain ⟨v, h1, h2⟩ := hcell hc
    obtain ⟨u, h3, h4⟩ := hcell hd
    rw [lc] at h1; rw [ld] at h3
    have ih' := ih (pc ++ [.bool a]) (pd ++ [.bool b]) (by simpa using hc) (by simpa using hd) (by simp [lc]) (by simp [ld])
    have e1 := h2.inv_bool; have e2 := h4.inv_bool
    subst e1; subst e2
    simp only [Op.eqFields, hn, ne_eq, not_false_eq_true, if_true, Sem.run_bind, ho, hpart hu trivial h1, hpart hu trivial h3, Result.andThen_ok, run_equalIn_bool s.w d f.type a b hu]
    by_cases hab' : a = b
    · simp [hab', ih']
    · simp [hab']
theorem op_eqS {T T' : TypeId} {x y : Operand} {fs : Array Field} {cs ds : List AV} {r : Bool} (ho : o.op = .binOp .eql T x y T') (hu : P.underlying T = some (.struct fs)) (hp : P.stoodInHeld T = false) (hm : P.eqGuardType P.depth T = false)
    (h : FEq P 0 fs.toList cs ds r) (hx : opv e x = .agg cs) (hy : opv e y = .agg ds) : AOp P σ e o (.bool r) σ :=
  op_bin ho hx hy fun s cx cy _ _ h1 h2 => by
    obtain ⟨xs, rfl, hxs⟩ := h1.inv_agg
    obtain ⟨ys, rfl, hys⟩ := h2.inv_agg
    have hf : P.fieldsOf T = fs := by simp [Program.fieldsOf, hu]
    refine ⟨.bool r, ?_, .bool _, run_eqGuard_agg s.w _ T x y _ _ hm⟩
    rw [run_eql_struct s.w T, run_equalIn_struct s.w 9999 T _ _ (by rw [hf, hu]) hp, hf, h.run 9998 s [] [] xs ys hxs hys rfl rfl]
    rfl
theorem op_neS {T T' : TypeId} {x y : Operand} {fs : Array Field} {cs ds : List AV} {r : Bool} (ho : o.op = .binOp .neq T x y T') (hu : P.underlying T = some (.struct fs)) (hp : P.stoodInHeld T = false) (hm : P.eqGuardType P.depth T = false)
    (h : FEq P 0 fs.toList cs ds r) (hx : opv e x = .agg cs) (hy : opv e y = .agg ds) : AOp P σ e o (.bool (!r)) σ :=
  op_bin ho hx hy fun s cx cy _ _ h1 h2 => by
    obtain ⟨xs, rfl, hxs⟩ := h1.inv_agg
    obtain ⟨ys, rfl, hys⟩ := h2.inv_agg
    have hf : P.fieldsOf T = fs := by simp [Program.fieldsOf, hu]
    refine ⟨.bool (!r), ?_, .bool _, run_eqGuard_agg s.w _ T x y _ _ hm⟩
    rw [run_neq_struct s.w T, run_equalIn_struct s.w 9999 T _ _ (by rw [hf, hu]) hp, hf, h.run 9998 s [] [] xs ys hxs hys rfl rfl]
    rfl
end Lg
namespace Lg
open Go Go.RowKit
variable [GLay]
variable {P : Program} {N : Nat} {σ : List AO} {e : Env} {Q : QA} {ops : Array Oper} {o : Oper}

def bcells (b : ByteArray) : List AV := b.data.toList.map fun u => .int .u8 u.toNat
theorem bcells_nil {b : ByteArray} (h : bcells b = []) : b = ByteArray.empty := by
  cases b; rename_i d
  have h1 : d.toList = [] := by simpa [bcells] using h
  have h2 : d = #[] := Array.ext' (by rw [h1])
  subst h2; rfl
theorem bcells_length (b : ByteArray) : (bcells b).length = b.data.toList.length := by simp [bcells]
theorem op_bytesStr {S T E : TypeId} {x : Operand} {m : Nat} {b : ByteArray} (ho : o.op = .convert S T x) (hs : P.underlying S = some (.slice E)) (he : P.underlying E = some (.int .u8)) (hd : P.underlying T = some .string)
    (hx : srcv σ (opv e x) = some (bcells b, m)) (hsz : szv (opv e x) 1) (hns : isStr (opv e x) = false) : AOp P σ e o (.str b) σ :=
  .of_run fun s a hσ g hv => by
    subst hσ
    have h1 := hv x (by simp [ho, Op.operands])
    obtain ⟨vs, hp, hl, hf⟩ := V.src (P := P) g h1 hx hsz
    have hvs : vs = b.data.toList.map fun u => Value.int .u8 u.toNat := by
      apply List.ext_getElem?
      intro i
      by_cases hi : i < b.data.toList.length
      · have hi' : i < vs.length := by rw [hp.1]; simpa [bcells] using hi
        have h2 := hp.2 i (.int .u8 (b.data.toList[i]).toNat) vs[i] (by simp [bcells, List.getElem?_eq_getElem hi]) (List.getElem?_eq_getElem hi')
        rw [List.getElem?_eq_getElem hi', List.getElem?_map, List.getElem?_eq_getElem hi, h2.inv_int]
        rfl
      · rw [List.getElem?_eq_none (by rw [hp.1]; simp [bcells] at hi ⊢; omega), List.getElem?_eq_none (by simp at hi ⊢; omega)]
    have hm : (vs.length : Nat) = b.data.toList.length := by rw [hvs]; simp
    refine ⟨.string b, ?_, .str _⟩
    have key : (convert S T (a.eval x)).run P s.w = .ok (.string b) s.w := by
      have h3 := hf s.w rfl
      cases hc : opv e x with
      | str => rw [hc] at hns; cases hns
      | nils =>
        rw [hc] at h1 hx
        rw [h1.inv_nils, run_convert_bytes_string s.w S T E _ _ _ hs he hd]
        simp [srcv] at hx
        have : b = ByteArray.empty := bcells_nil hx.1
        subst this
        simp [Conv.bytesToString]
      | sl f z es =>
        rw [hc] at h1 hx hsz
        have hz : z = 1 := hsz
        subst hz
        rcases h1.inv_sl with ⟨ad, h4, hes⟩ | ⟨bb, off, cap, us, h4, _, hel, hcc, hpp, _⟩
        · subst hes
          rw [h4, run_convert_bytes_string s.w S T E _ _ _ hs he hd]
          simp [srcv] at hx
          have : b = ByteArray.empty := bcells_nil hx.1
          subst this
          cases ad with
          | none => simp [Conv.bytesToString]
          | some ad => rw [run_bytesToString s.w ad 0 0 [] (by simp [loadCells, loadCellsFrom])]; rfl
        · rw [h4]
          simp [srcv] at hx
          have hus : us = vs := by
            have h5 := hpp.1
            apply List.ext_getElem?
            intro i
            have hlen : us.length = b.data.toList.length := by rw [h5, hx.1]; simp [bcells]
            by_cases hi : i < b.data.toList.length
            · have h6 := hpp.2 i (.int .u8 (b.data.toList[i]).toNat) us[i] (by rw [hx.1]; simp [bcells, List.getElem?_eq_getElem hi]) (List.getElem?_eq_getElem (by omega))
              rw [List.getElem?_eq_getElem (by omega), h6.inv_int, hvs, List.getElem?_map, List.getElem?_eq_getElem hi]; rfl
            · rw [List.getElem?_eq_none (by omega), List.getElem?_eq_none (by omega)]
          have hfl : es.flatten.length = es.length * 1 := flatten_len hel
          have hlen : es.length = b.data.toList.length := by have := hpp.1; rw [hus, hm] at this; omega
          rw [hlen]
          refine run_convert_bytes_back s.w S T E _ cap b.data.toList hs he hd fun j hj => ?_
          rw [add_none]
          exact hcc j _ (by rw [hus, hvs, List.getElem?_map, List.getElem?_eq_getElem hj]; rfl)
      | arr p gg z off len =>
        rw [hc] at h1 hx hsz
        have hz : z = 1 := hsz
        subst hz
        simp only [srcv] at hx
        split at hx
        · rename_i sz' g' cs hσ
          split at hx
          · rename_i hgg
            subst hgg
            simp only [Option.map_eq_some_iff, Prod.mk.injEq] at hx
            obtain ⟨ds, hd1, hd2, rfl⟩ := hx
            obtain ⟨hd3, hd4⟩ := tk_eq hd1
            obtain ⟨_, hcase⟩ := h1.inv_arr hσ
            rcases hcase with ⟨ad, h4, rfl⟩ | ⟨cap, h4, h5, h6⟩
            · rw [h4, run_convert_bytes_string s.w S T E _ _ _ hs he hd]
              have : b = ByteArray.empty := bcells_nil (by rw [← hd2, hd3]; simp)
              subst this
              cases ad with
              | none => simp [Conv.bytesToString]
              | some ad => rw [run_bytesToString s.w ad 0 0 [] (by simp [loadCells, loadCellsFrom])]; rfl
            · rw [h4]
              have hlen : len = b.data.toList.length := by
                have h7 : ds.length = len * 1 := by rw [hd3, List.length_take]; omega
                rw [hd2, bcells_length] at h7; omega
              rcases g.obj p _ hσ with ⟨h8, h9⟩ | ⟨_, _, ws, T', h8, h9, h10, h11⟩
              · have h0 : len = 0 := by rw [h9] at hd4; simp at hd4; omega
                subst h0
                have : b.data.toList = [] := List.eq_nil_of_length_eq_zero hlen.symm
                have hb : b = ByteArray.empty := bcells_nil (by simp [bcells, this])
                subst hb
                rw [run_convert_bytes_string s.w S T E _ _ _ hs he hd, run_bytesToString s.w _ 0 _ [] (by simp [loadCells, loadCellsFrom])]; rfl
              · rw [hlen]
                refine run_convert_bytes_back s.w S T E _ cap b.data.toList hs he hd fun j hj => ?_
                rw [add_none]
                have hj2 : ds[j]? = some (.int .u8 (b.data.toList[j]).toNat) := by rw [hd2]; simp [bcells, List.getElem?_eq_getElem hj]
                have hj3 : cs[off + j]? = some (.int .u8 (b.data.toList[j]).toNat) := by
                  rw [hd3, List.getElem?_take] at hj2
                  split at hj2
                  · rw [List.getElem?_drop] at hj2; simpa using hj2
                  · cases hj2
                obtain ⟨v, hv1, hv2⟩ := h11.get hj3
                rw [hv2.inv_int] at hv1
                rw [List.getElem?_take] at hv1
                split at hv1
                · rw [List.getElem?_drop] at hv1
                  simp only [World.cell?, h8]
                  have : (s.μ p).base + off * 1 + j = (s.μ p).base + (off + j) := by omega
                  simp only [this]
                  simpa using hv1
                · cases hv1
          · cases hx
        · cases hx
      | _ => rw [hc] at hx; simp [srcv] at hx
    simp [execOp, ho, key]
end Lg
namespace Lg
open Go Go.RowKit
variable [GLay]
variable {P : Program} {N : Nat} {σ : List AO} {e : Env} {Q : QA} {ops : Array Oper} {o : Oper}

theorem Good.rowO {s : CS} (g : Good s) (ob : Obj) {w : World} (hw : Below s.w.heap.size s.w w) (hws : w.heap.size = s.w.heap.size) :
    ∃ s', s'.σ = s.σ ∧ s'.w = w.alloc ob ∧ Good s' ∧ Ext s s' ∧ s'.ok s.w.heap.size := by
  let s' : CS := { s with ok := fun b => s.ok b ∨ b = s.w.heap.size, w := w.alloc ob }
  have hheap : ∀ {b : Nat}, b < s.w.heap.size → s'.w.heap[b]? = s.w.heap[b]? := fun {b} hb => by
    show (w.alloc _).heap[b]? = _; rw [alloc_heap, if_neg (by omega)]; exact hw.block b hb
  have hsz : s'.w.heap.size = s.w.heap.size + 1 := by show (w.alloc _).heap.size = _; rw [alloc_size, hws]
  have x : Ext s s' := {
    objs := fun _ o h => ⟨o, h, OLe.refl o, fun _ => rfl⟩
    ok := fun _ h => .inl h
    okn := fun _ h => h.elim .inl fun e => .inr (.inl (Nat.le_of_eq e.symm))
    mun := fun _ h => .inl ⟨CS.live_lt (s := s) h, h, rfl⟩
    frame := fun b hb _ => hheap hb
    size := by omega
    shp := fun p cs cs' z h1 _ h3 => (shape_eq (hheap (shape_some h3))).trans h3
    tape := hw.tape
    os := hw.os
    output := hw.output }
  refine ⟨s', rfl, rfl, ⟨fun b hb => ?_, fun p o ho => ?_, fun p q hpq hp hq => g.inj p q hpq hp hq, fun b o ho => ?_⟩, x, .inr rfl⟩
  · rcases hb with hb | rfl
    · exact Nat.lt_of_lt_of_le (g.okb b hb) x.size
    · omega
  · exact ORep.keep g x ho rfl (fun hl hk => hk.elim (g.live_lt hl).2 (fun e => by have := (g.live_lt hl).1; omega)) (fun hl => hheap (g.live_lt hl).1)
  · obtain ⟨h1, h2⟩ := g.glob b o ho
    exact ⟨.inl h1, (hheap (g.okb b h1)).trans h2⟩

def brows (b : ByteArray) : List (List AV) := b.data.toList.map fun u => [.int .u8 u.toNat]
theorem brows_flatten (b : ByteArray) : (brows b).flatten = bcells b := by
  unfold brows bcells
  induction b.data.toList with
  | nil => rfl
  | cons x l ih => simp [ih]
theorem brows_length (b : ByteArray) : (brows b).length = b.size := by
  unfold brows; rw [List.length_map]; rfl
theorem op_strBytes {S T E : TypeId} {x : Operand} {b : ByteArray} (ho : o.op = .convert S T x) (hs : P.underlying S = some .string) (hd : P.underlying T = some (.slice E)) (he : P.underlying E = some (.int .u8))
    (hx : opv e x = .str b) : AOp P σ e o (.sl false 1 (brows b)) σ := by
  intro s a hσ g hv K Q hk _
  subst hσ
  have h1 := (hx ▸ hv x (by simp [ho, Op.operands])).inv_str
  obtain ⟨s', e1, e2, g', x', hok⟩ := g.rowO (.cells (bytesRow b (grownCap s.w b.size 0 E)) E ((bytesRow b (grownCap s.w b.size 0 E)).size, (bytesRow b (grownCap s.w b.size 0 E)).size + 1)) (w := s.w.drew) (Below.refl _ _).drew rfl
  refine wp_value (w' := s'.w) ?_ (hk _ (.slice (some ⟨s.w.heap.size, 0, none⟩) b.size (grownCap s.w b.size 0 E)) s' ⟨rfl, e1⟩ g' x' ?_)
  · rw [e2]
    simp [execOp, ho, h1, run_bytes_of_string s.w S T E b hs hd he]
  · rw [← brows_length b]
    refine .sl false 1 (brows b) s.w.heap.size 0 _ (b.data.toList.map fun u => .int .u8 u.toNat) (.inr hok) (fun r hr => ?_) ?_ (fun i v hi => ?_) (fun i c v hc hv' => ?_) ?_ (by simp)
    · simp [brows] at hr; obtain ⟨u, _, rfl⟩ := hr; rfl
    · rw [brows_flatten]; simp [bcells]
    · rw [e2, Nat.zero_add]
      simp only [World.cell?, alloc_heap]
      rw [if_pos (show s.w.heap.size = s.w.drew.heap.size from rfl)]
      have hi' : i < b.data.size := by have := (List.getElem?_eq_some_iff.1 hi).1; simpa using this
      simp only [List.getElem?_map, Array.getElem?_toList] at hi
      simp only [bytesRow]
      rw [Array.getElem?_append_left (by simpa using hi'), Array.getElem?_map]
      exact hi
    · rw [brows_flatten] at hc
      simp only [bcells, List.getElem?_map] at hc hv'
      cases hu : b.data.toList[i]? with
      | none => rw [hu] at hc; cases hc
      | some u => rw [hu] at hc hv'; cases hc; cases hv'; exact .int _ _
    · rw [brows_length]; exact grownCap_ge _ _ _ _

theorem op_eqPN {T E T' : TypeId} {x y : Operand} {v : AV} (ho : o.op = .binOp .eql T x y T') (hu : P.underlying T = some (.pointer E)) (hx : opO e x = some v) (hn : notNil v = true) (hy : opO e y = some .nilp) : AOp P σ e o (.bool false) σ :=
  op_bin ho (opO_eq hx) (opO_eq hy) fun s cx cy _ _ h1 h2 => by
    have hp : P.pointee T = E := by simp [Program.pointee, hu]
    have hc : ∃ ad, cx = .pointer (some ad) := by
      cases v with
      | ptr p off => exact ⟨_, h1.inv_ptr⟩
      | pp cs => obtain ⟨b, off, vs, h, _⟩ := h1.inv_pp; exact ⟨_, h⟩
      | _ => cases hn
    obtain ⟨ad, rfl⟩ := hc
    rw [h2.inv_nilp]
    exact ⟨_, run_eql_pointer_nil s.w T _ (by rw [hp]; exact hu), .bool _, eqGuard_ptr ..⟩
theorem op_nePN {T E T' : TypeId} {x y : Operand} {v : AV} (ho : o.op = .binOp .neq T x y T') (hu : P.underlying T = some (.pointer E)) (hx : opO e x = some v) (hn : notNil v = true) (hy : opO e y = some .nilp) : AOp P σ e o (.bool true) σ :=
  op_bin ho (opO_eq hx) (opO_eq hy) fun s cx cy _ _ h1 h2 => by
    have hp : P.pointee T = E := by simp [Program.pointee, hu]
    have hc : ∃ ad, cx = .pointer (some ad) := by
      cases v with
      | ptr p off => exact ⟨_, h1.inv_ptr⟩
      | pp cs => obtain ⟨b, off, vs, h, _⟩ := h1.inv_pp; exact ⟨_, h⟩
      | _ => cases hn
    obtain ⟨ad, rfl⟩ := hc
    rw [h2.inv_nilp]
    exact ⟨_, run_neq_pointer_nil s.w T _ (by rw [hp]; exact hu), .bool _, eqGuard_ptr ..⟩
theorem op_eqNN {T E T' : TypeId} {x y : Operand} (ho : o.op = .binOp .eql T x y T') (hu : P.underlying T = some (.pointer E)) (hx : opO e x = some .nilp) (hy : opO e y = some .nilp) : AOp P σ e o (.bool true) σ :=
  op_bin ho (opO_eq hx) (opO_eq hy) fun s cx cy _ _ h1 h2 => by
    have hp : P.pointee T = E := by simp [Program.pointee, hu]
    rw [h1.inv_nilp, h2.inv_nilp]
    exact ⟨_, run_eql_pointer_nil s.w T _ (by rw [hp]; exact hu), .bool _, eqGuard_ptr ..⟩
theorem op_neNN {T E T' : TypeId} {x y : Operand} (ho : o.op = .binOp .neq T x y T') (hu : P.underlying T = some (.pointer E)) (hx : opO e x = some .nilp) (hy : opO e y = some .nilp) : AOp P σ e o (.bool false) σ :=
  op_bin ho (opO_eq hx) (opO_eq hy) fun s cx cy _ _ h1 h2 => by
    have hp : P.pointee T = E := by simp [Program.pointee, hu]
    rw [h1.inv_nilp, h2.inv_nilp]
    exact ⟨_, run_neq_pointer_nil s.w T _ (by rw [hp]; exact hu), .bool _, eqGuard_ptr ..⟩
section iface
variable {T T' : TypeId} {x : Operand} {ms : Array (String × TypeId)}
def isNilI : Value → Bool
  | .nilIface => true
  | _ => false
theorem run_equalInI (w : World) (d : Nat) {ms} (hu : P.underlying T = some (.interface ms)) (c : Value) (hc : c = .nilIface ∨ ∃ t v, c = .iface t v) : (Op.equalIn (d + 1) T c .nilIface).run P w = .ok (isNilI c) w := by
  rcases hc with rfl | ⟨t, v, rfl⟩ <;> simp [Op.equalIn, run_underlying hu, isNilI]
theorem run_equalI (w : World) {ms} (hu : P.underlying T = some (.interface ms)) (c : Value) (hc : c = .nilIface ∨ ∃ t v, c = .iface t v) : (Op.equal T c .nilIface).run P w = .ok (isNilI c) w := run_equalInI w 9999 hu c hc
theorem run_eqI (w : World) {ms} (hu : P.underlying T = some (.interface ms)) (c : Value) (hc : c = .nilIface ∨ ∃ t v, c = .iface t v) : (binOp .eql T c .nilIface).run P w = .ok (.bool (isNilI c)) w := by
  have := run_equalI w hu c hc
  rcases hc with rfl | ⟨t, v, rfl⟩ <;> (simp only [binOp]; simp [this])
theorem run_neI (w : World) {ms} (hu : P.underlying T = some (.interface ms)) (c : Value) (hc : c = .nilIface ∨ ∃ t v, c = .iface t v) : (binOp .neq T c .nilIface).run P w = .ok (.bool (!isNilI c)) w := by
  have := run_equalI w hu c hc
  rcases hc with rfl | ⟨t, v, rfl⟩ <;> (simp only [binOp]; simp [this])
theorem run_eqGuardI (w : World) (op : BinOp) (x : Operand) (z : Value) (c : Value) (hc : c = .nilIface ∨ ∃ t v, c = .iface t v) : (eqGuard op T x (.const z) c .nilIface).run P w = .ok () w := by
  rcases hc with rfl | ⟨t, v, rfl⟩ <;> cases op <;> simp [eqGuard]
theorem op_eqIN {U : TypeId} {v : AV} (ho : o.op = .binOp .eql T x (.const .nilIface) T') (hu : P.underlying T = some (.interface ms)) (hx : opO e x = some (.iface U v)) : AOp P σ e o (.bool false) σ :=
  op_bin ho (opO_eq hx) rfl fun s cx cy _ _ h1 h2 => by
    obtain ⟨u, rfl, _⟩ := h1.inv_iface
    have e2 : cy = .nilIface := h2.inv_nili
    subst e2
    exact ⟨_, run_eqI s.w hu _ (.inr ⟨_, _, rfl⟩), .bool _, run_eqGuardI s.w .eql x _ _ (.inr ⟨_, _, rfl⟩)⟩
theorem op_neIN {U : TypeId} {v : AV} (ho : o.op = .binOp .neq T x (.const .nilIface) T') (hu : P.underlying T = some (.interface ms)) (hx : opO e x = some (.iface U v)) : AOp P σ e o (.bool true) σ :=
  op_bin ho (opO_eq hx) rfl fun s cx cy _ _ h1 h2 => by
    obtain ⟨u, rfl, _⟩ := h1.inv_iface
    have e2 : cy = .nilIface := h2.inv_nili
    subst e2
    exact ⟨_, run_neI s.w hu _ (.inr ⟨_, _, rfl⟩), .bool _, run_eqGuardI s.w .neq x _ _ (.inr ⟨_, _, rfl⟩)⟩
theorem op_eqINil (ho : o.op = .binOp .eql T x (.const .nilIface) T') (hu : P.underlying T = some (.interface ms)) (hx : opO e x = some .nili) : AOp P σ e o (.bool true) σ :=
  op_bin ho (opO_eq hx) rfl fun s cx cy _ _ h1 h2 => by
    have e1 := h1.inv_nili
    have e2 : cy = .nilIface := h2.inv_nili
    subst e1; subst e2
    exact ⟨_, run_eqI s.w hu _ (.inl rfl), .bool _, run_eqGuardI s.w .eql x _ _ (.inl rfl)⟩
theorem op_neINil (ho : o.op = .binOp .neq T x (.const .nilIface) T') (hu : P.underlying T = some (.interface ms)) (hx : opO e x = some .nili) : AOp P σ e o (.bool false) σ :=
  op_bin ho (opO_eq hx) rfl fun s cx cy _ _ h1 h2 => by
    have e1 := h1.inv_nili
    have e2 : cy = .nilIface := h2.inv_nili
    subst e1; subst e2
    exact ⟨_, run_neI s.w hu _ (.inl rfl), .bool _, run_eqGuardI s.w .neq x _ _ (.inl rfl)⟩
end iface

def Laid (w : World) : Prop := ∀ b ob, GLay.f b = some ob → w.heap[b]? = some ob
theorem Good.laid {s : CS} (g : Good s) : Laid s.w := fun b ob h => (g.glob b ob h).2
theorem ACalls_below {f : FuncId} {args : List AV} {v : AV} (h : ∀ (s : CS) (cargs : List Value), Good s → PW s args cargs → ∃ cv, (∀ s' : CS, V s' v cv) ∧ Calls P f cargs.toArray s.w fun en w' => en = .returned cv ∧ Below s.w.heap.size s.w w') :
    ACalls P f args σ (Ret v σ) := fun s cargs hs g hp => by
  obtain ⟨cv, hv, hc⟩ := h s cargs g hp
  refine hc.mono fun en w' ⟨h1, h2⟩ => ?_
  subst h1
  obtain ⟨g', x'⟩ := g.grow h2
  exact ⟨_, rfl, g', x', v, hv _, rfl, hs⟩
end Lg
namespace Lg
open Go Go.RowKit
variable [GLay]
variable {P : Program} {N : Nat} {σ : List AO} {e : Env} {Q : QA} {ops : Array Oper} {o : Oper}

theorem ResQ_retN {el : List (Nat × AV)} {l : List AO} {ts : List Nat} {v : AV} {R : Out → List AO → Prop} (h : resA ts ⟨[], el⟩ = v) (hc : closed σ.length σ) (hv : v.lt σ.length) (hR : R (.ret v) σ) : ResQ σ.length ts R .ret ⟨[], el⟩ (σ ++ l) :=
  ⟨rfl, σ.length, Nat.le_refl _, closed_old hc, by rw [h]; exact hv, by rw [h, take_old]; exact hR⟩
theorem ResQ_ret0 {el : List (Nat × AV)} {ts : List Nat} {v : AV} {R : Out → List AO → Prop} (h : resA ts ⟨[], el⟩ = v) (hc : closed σ.length σ) (hv : v.lt σ.length) (hR : R (.ret v) σ) : ResQ σ.length ts R .ret ⟨[], el⟩ σ :=
  ⟨rfl, σ.length, Nat.le_refl _, hc, by rw [h]; exact hv, by rw [h, List.take_length]; exact hR⟩
theorem Ret_of {v v' : AV} (h : v = v') : Ret v' σ (.ret v) σ := ⟨by rw [h], rfl⟩
end Lg
namespace Lg
open Go Go.RowKit
variable [GLay]
variable {P : Program} {N : Nat} {σ : List AO} {e : Env} {Q : QA} {ops : Array Oper} {o : Oper}
def Places (P : Program) : List Field → List (Nat × Nat) → Prop
  | [], [] => True
  | f :: fs, q :: qs => f.offset = q.1 ∧ (∀ w, (Go.sizeOf f.type).run P w = Result.ok q.2 w) ∧ Places P fs qs
  | _, _ => False
theorem Places.runL : ∀ {fs : List Field} {qs : List (Nat × Nat)}, Places P fs qs → ∀ w, (fs.mapM fun f => do pure (f.offset, ← Go.sizeOf f.type) : Sem (List (Nat × Nat))).run P w = Result.ok qs w
  | [], [], _, w => by simp
  | f :: fs, q :: qs, ⟨h1, h2, h3⟩, w => by
    simp only [List.mapM_cons, Sem.run_bind, h2, Result.andThen_ok, Sem.run_pure, h1]
    rw [Places.runL h3 w]
    simp
  | [], _ :: _, h, _ => h.elim
  | _ :: _, [], h, _ => h.elim
theorem Places.run {fs : Array Field} {qs : List (Nat × Nat)} (h : Places P fs.toList qs) (w : World) : (fs.mapM fun f => do pure (f.offset, ← Go.sizeOf f.type) : Sem (Array (Nat × Nat))).run P w = Result.ok qs.toArray w := by
  obtain ⟨l⟩ := fs
  rw [List.mapM_toArray]
  have := h.runL w
  simp only [map_eq_pure_bind, Sem.run_bind] at this ⊢
  rw [this]
  simp
theorem op_buildP {T : TypeId} {parts : Array (Nat × Operand)} {fs : Array Field} {z : Value} {cs : List AV} (pls : List (Nat × Nat)) (ho : o.op = .build T parts) (hu : P.underlying T = some (.struct fs))
    (hz : ∀ w, (zeroValue T).run P w = Result.ok z w) (hpls : Places P fs.toList pls)
    (h1 : (parts.toList.all fun q => ones (opv e q.2).cells && (opv e q.2).cells.length == ((pls[q.1]?).map (·.2)).getD 0) = true)
    (hb : bld (fun i : Nat => (pls[i]?).map (·.1)) (z.cells.toList.map ofConst1) e parts.toList = some cs) : AOp P σ e o (.agg cs) σ := op_build pls ho hu hz hpls.run h1 hb
section
variable {el : List (Nat × AV)} {l : List AO} {v v1 v2 v3 v4 : AV} {t1 t2 t3 t4 : Nat} {R : Out → List AO → Prop}
theorem ResQ_1 (h1 : lookO el t1 = some v1) (hc : closed σ.length σ) (hv : v1.lt σ.length) (hR : R (.ret v1) σ) : ResQ σ.length [t1] R .ret ⟨[], el⟩ (σ ++ l) := ResQ_retN (lookO_eq h1) hc hv hR
theorem ResQ_10 (h1 : lookO el t1 = some v1) (hc : closed σ.length σ) (hv : v1.lt σ.length) (hR : R (.ret v1) σ) : ResQ σ.length [t1] R .ret ⟨[], el⟩ σ := ResQ_ret0 (lookO_eq h1) hc hv hR
end
end Lg
namespace Lg
open Go Go.RowKit
variable [GLay]
variable {P : Program} {N : Nat} {σ : List AO} {e : Env} {Q : QA} {ops : Array Oper} {o : Oper}
def bat (b : ByteArray) (i : Nat) : UInt8 := b.data.toList.getD i 0
theorem bat_get {b : ByteArray} {i : Nat} (h : i < b.size) : b.data.toList[i]? = some (bat b i) := by
  have h' : i < b.data.toList.length := by rw [Array.length_toList]; exact h
  rw [bat, List.getD_eq_getElem?_getD, List.getElem?_eq_getElem h']; rfl
theorem brows_at {b : ByteArray} {i : Nat} (h : i < b.size) : (brows b)[i]? = some [.int .u8 (bat b i).toNat] := by
  simp only [brows, List.getElem?_map, bat_get h]; rfl
theorem op_index_strB {T : TypeId} {x y : Operand} {b : ByteArray} {k : IntKind} {n : Int} (ho : o.op = .index T x y) (hu : P.underlying T = some .string) (hx : opv e x = .str b) (hy : opv e y = .int k n)
    (h0 : 0 ≤ n) (h1 : n < b.size) : AOp P σ e o (.int .u8 (bat b n.toNat).toNat) σ :=
  op_index_str ho hu hx hy h0 (bat_get (by omega))
end Lg
namespace Lg
open Go
class U8 [GLay] : Prop where
  tabs : ∀ w : World, Laid w → Go.Lib.Utf8Tabs 0 1 w
end Lg
