/- A part of the proof of For all texts, lists of names and counts the law PtrTells answers true, and they read afterwards as before; the card ties the tables.: Lg30 Lg31 Lg32 Lg33 Lg34 Lg43 Ln7 Ln8 Lq1 Lk1 Lk2 Lk3 Lp4 Lp5 Lp6 Lp7 Lk4 Lk5 Lg44 Lk6 Lk7. -/
import Derived.Test.YtjnofdnoboibpaaGreatDoorP4
import Derived.Test.YtjnofdnoboibpaaGreatDoorP3
import Derived.Test.YtjnofdnoboibpaaGreatDoorP2
import Derived.Lib.Builder
import Derived.Lib.UnsafeStr
import Derived.Laws.Externs
import Derived.Laws.Shifts
import Derived.Lib.ItoaNum
import Derived.Lib.Atoi
import Derived.MapKept
set_option linter.unusedVariables false
set_option linter.unusedSimpArgs false
set_option linter.unusedSectionVars false
namespace Lg
open Go Go.RowKit
variable [GLay]
variable {P : Program} {N : Nat} {σ l : List AO} {e : Env} {Q : QA} {o : Oper}
/-- A row of bytes that has grown, in its old block, or in a new one. -/
theorem Good.renewB {s : CS} (g : Good s) {p : Nat} {T : TypeId} {l l' : List UInt8} (ho : s.σ[p]? = some (.bytes T l)) (hg : l.length < l'.length) (m : Pl) {w' : World}
    (hsize : s.w.heap.size ≤ w'.heap.size) (htape : w'.tape = s.w.tape) (hos : w'.os = s.w.os) (hout : w'.output = s.w.output)
    (hframe : ∀ b, b < s.w.heap.size → (s.live p → b ≠ (s.μ p).b) → w'.heap[b]? = s.w.heap[b]?)
    (hm : ((m.b = (s.μ p).b ∧ s.live p) ∨ (s.w.heap.size ≤ m.b ∧ m.b < w'.heap.size)) ∧ m.tot ≠ 0 ∧ ∃ vs, w'.heap[m.b]? = some (.cells (List.toArray vs) T (0, 0)) ∧ vs.length = m.tot ∧ l'.length ≤ m.tot ∧ vs.take l'.length = bcl l') :
    ∃ s', s'.σ = s.σ.set p (.bytes T l') ∧ s'.w = w' ∧ Good s' ∧ Ext s s' ∧ s'.μ p = m := by
  have hlt : p < s.σ.length := (List.getElem?_eq_some_iff.1 ho).1
  let s' : CS := { s with σ := s.σ.set p (.bytes T l'), μ := fun q => if q = p then m else s.μ q, w := w' }
  have hother : ∀ {q : Nat}, q ≠ p → s'.σ[q]? = s.σ[q]? ∧ s'.μ q = s.μ q := fun {q} hq =>
    ⟨by show (s.σ.set p _)[q]? = _; rw [List.getElem?_set, if_neg (fun e => hq e.symm)], by show (if q = p then m else s.μ q) = _; rw [if_neg hq]⟩
  have hthis : s'.σ[p]? = some (.bytes T l') ∧ s'.μ p = m := ⟨by show (s.σ.set p _)[p]? = _; simp [hlt], by show (if p = p then m else s.μ p) = _; rw [if_pos rfl]⟩
  have hlive' : ∀ {q : Nat}, q ≠ p → s'.live q → s.live q := fun {q} hq h => by
    unfold CS.live at h ⊢; rw [(hother hq).1, (hother hq).2] at h; exact h
  have hlp : s'.live p → (m.b = (s.μ p).b ∧ s.live p) ∨ (s.w.heap.size ≤ m.b ∧ m.b < w'.heap.size) := fun h => by
    unfold CS.live at h; rw [hthis.1, hthis.2] at h
    exact hm.1
  have hfr : ∀ {b : Nat}, b < s.w.heap.size → (s.live p → b ≠ (s.μ p).b) → w'.heap[b]? = s.w.heap[b]? := fun h1 h2 => hframe _ h1 h2
  have x : Ext s s' := {
    objs := fun q r hr => by
      by_cases e : q = p
      · subst e
        rw [ho] at hr; cases hr
        exact ⟨_, hthis.1, .bytes _ _ _ (by omega), fun (h : l.length = l'.length) => by omega⟩
      · exact ⟨r, by rw [(hother e).1]; exact hr, OLe.refl r, fun _ => (hother e).2⟩
    ok := fun _ h => h
    okn := fun _ h => .inl h
    mun := fun q hq => by
      by_cases e : q = p
      · subst e
        rw [hthis.2]
        rcases hlp hq with ⟨h1, h2⟩ | ⟨h1, _⟩
        · exact .inl ⟨hlt, h2, h1⟩
        · exact .inr h1
      · exact .inl ⟨CS.live_lt (hlive' e hq), hlive' e hq, by rw [(hother e).2]⟩
    frame := fun b hb hne => hfr hb fun hl e => hne p hl e.symm
    size := hsize
    shp := fun q cs cs' z h1 _ h3 => by
      have e : q ≠ p := fun e => by subst e; rw [ho] at h1; cases h1
      have hq : s.live q := by unfold CS.live; rw [h1]; trivial
      rw [(hother e).2]
      exact (shape_eq (hfr (shape_some h3) fun hl => g.inj q p e hq hl)).trans h3
    tape := htape
    os := hos
    output := hout }
  refine ⟨s', rfl, rfl, ⟨fun b hb => Nat.lt_of_lt_of_le (g.okb b hb) hsize, fun q r hr => ?_, fun q q' hne h1 h2 => ?_, fun b r hr => ?_⟩, x, hthis.2⟩
  · by_cases e : q = p
    · subst e
      rw [hthis.1] at hr; cases hr
      obtain ⟨h1, h0, vs, h2, h3, h4, h5⟩ := hm
      refine .inr ⟨by rw [hthis.2]; exact h0, ?_, vs, by rw [hthis.2]; exact h2, by rw [hthis.2]; exact h3, by rw [hthis.2]; exact h4, h5⟩
      rw [hthis.2]
      rcases h1 with ⟨h1, hl⟩ | ⟨h1, _⟩
      · rw [h1]; exact (g.live_lt hl).2
      · exact fun hk => absurd (g.okb _ hk) (by omega)
    · have hr' : s.σ[q]? = some r := by rw [← (hother e).1]; exact hr
      exact ORep.keep g x hr' (hother e).2 (fun hq => (g.live_lt hq).2) (fun hq => hfr (g.live_lt hq).1 fun hl => g.inj q p e hq hl)
  · by_cases e : q = p
    · subst e
      rw [hthis.2, (hother (fun e => hne e.symm)).2]
      have h2' := hlive' (fun e => hne e.symm) h2
      rcases hlp h1 with ⟨h3, h4⟩ | ⟨h3, _⟩
      · rw [h3]; exact g.inj _ _ hne h4 h2'
      · have := (g.live_lt h2').1; omega
    · by_cases e' : q' = p
      · subst e'
        rw [hthis.2, (hother e).2]
        have h1' := hlive' e h1
        rcases hlp h2 with ⟨h3, h4⟩ | ⟨h3, _⟩
        · rw [h3]; exact g.inj _ _ hne h1' h4
        · have := (g.live_lt h1').1; omega
      · rw [(hother e).2, (hother e').2]; exact g.inj _ _ hne (hlive' e h1) (hlive' e' h2)
  · obtain ⟨h1, h2⟩ := g.glob b r hr
    exact ⟨h1, (hfr (g.okb b h1) fun hl e => (g.live_lt hl).2 (e ▸ h1)).trans h2⟩

theorem Good.ghostB {s : CS} (g : Good s) (T : TypeId) : ∃ s', s'.σ = s.σ ++ [.bytes T []] ∧ s'.w = s.w ∧ Good s' ∧ Ext s s' := by
  let s' : CS := { s with σ := s.σ ++ [.bytes T []], μ := fun p => if p = s.σ.length then ⟨0, 0, 0⟩ else s.μ p }
  have hlt : ∀ {p : Nat} {o : AO}, s.σ[p]? = some o → p < s.σ.length := fun h => (List.getElem?_eq_some_iff.1 h).1
  have hold : ∀ {p : Nat}, p < s.σ.length → s'.σ[p]? = s.σ[p]? ∧ s'.μ p = s.μ p := fun {p} h =>
    ⟨by show (s.σ ++ [_])[p]? = _; rw [List.getElem?_append_left h], by show (if p = _ then _ else _) = _; rw [if_neg (by omega)]⟩
  have hnew : s'.σ[s.σ.length]? = some (.bytes T []) ∧ s'.μ s.σ.length = ⟨0, 0, 0⟩ := ⟨by show (s.σ ++ [_])[_]? = _; simp, by show (if _ = _ then _ else _) = _; rw [if_pos rfl]⟩
  have hlive : ∀ {p : Nat}, s'.live p → p < s.σ.length ∧ s.live p ∧ s'.μ p = s.μ p := fun {p} h => by
    have hp := CS.live_lt h
    have hl : s'.σ.length = s.σ.length + 1 := by show (s.σ ++ [_]).length = _; simp
    rcases Nat.lt_or_ge p s.σ.length with h1 | h1
    · refine ⟨h1, ?_, (hold h1).2⟩
      unfold CS.live at h ⊢
      rw [(hold h1).1, (hold h1).2] at h
      exact h
    · have : p = s.σ.length := by omega
      subst this
      unfold CS.live at h
      rw [hnew.1, hnew.2] at h
      exact absurd rfl h
  have x : Ext s s' := {
    objs := fun p o h => ⟨o, by rw [(hold (hlt h)).1]; exact h, OLe.refl o, fun _ => (hold (hlt h)).2⟩
    ok := fun _ h => h
    okn := fun _ h => .inl h
    mun := fun p h => .inl ⟨(hlive h).1, (hlive h).2.1, by rw [(hlive h).2.2]⟩
    frame := fun b _ _ => rfl
    size := Nat.le_refl _
    shp := fun p cs cs' z h1 _ h3 => by
      rw [(hold (hlt h1)).2]; exact h3
    tape := rfl
    os := rfl
    output := rfl }
  refine ⟨s', rfl, rfl, ⟨g.okb, fun p o ho => ?_, fun p q hpq hp hq => ?_, g.glob⟩, x⟩
  · rcases Nat.lt_or_ge p s.σ.length with hp | hp
    · have ho' : s.σ[p]? = some o := by rw [← (hold hp).1]; exact ho
      exact (g.obj p o ho').mono g x (hold hp).2 id fun ob hb _ => hb
    · have hl : s'.σ.length = s.σ.length + 1 := by show (s.σ ++ [_]).length = _; simp
      have : p = s.σ.length := by have := (List.getElem?_eq_some_iff.1 ho).1; omega
      subst this
      rw [hnew.1] at ho; cases ho
      exact .inl ⟨by rw [hnew.2], rfl⟩
  · rw [(hlive hp).2.2, (hlive hq).2.2]; exact g.inj p q hpq (hlive hp).2.1 (hlive hq).2.1


/-! ### Rows of bytes -/
def bav (l : List UInt8) : List AV := l.map fun b => .int .u8 b.toNat
theorem bav_len (l : List UInt8) : (bav l).length = l.length := by simp [bav]
theorem bcl_len (l : List UInt8) : (bcl l).length = l.length := by simp [bcl]
theorem bcl_app (a b : List UInt8) : bcl (a ++ b) = bcl a ++ bcl b := by simp [bcl]
theorem bav_pw {s : CS} {l : List UInt8} {vs : List Value} (h : PW s (bav l) vs) : vs = bcl l := by
  refine List.ext_getElem? fun i => ?_
  rcases Nat.lt_or_ge i l.length with hi | hi
  · have h1 : (bav l)[i]? = some (.int .u8 (l[i]).toNat) := by simp [bav, hi]
    obtain ⟨v, h2, h3⟩ := h.get h1
    rw [h2, h3.inv_int]
    simp [bcl, hi]
  · rw [List.getElem?_eq_none (by rw [h.1, bav_len]; exact hi), List.getElem?_eq_none (by rw [bcl_len]; exact hi)]
theorem bav_ones (l : List UInt8) : ones (bav l) = true := by
  rw [ones_iff]; intro a ha
  obtain ⟨b, _, rfl⟩ := List.mem_map.1 ha
  rfl
theorem BAt.mk {s : CS} {p : Nat} {T : TypeId} {l : List UInt8} {R : Pl → Prop} (hσ : s.σ[p]? = some (.bytes T l)) (h : R (s.μ p)) : BAt s p l.length R := by
  unfold BAt; rw [hσ]; exact ⟨Nat.le_refl _, fun _ => h⟩
theorem V.inv_bts {s : CS} {p n : Nat} {c : Value} {T : TypeId} {l : List UInt8} (h : V s (.bts p n) c) (hs : s.σ[p]? = some (.bytes T l)) (hn : n = l.length) :
    (c = .slice none 0 0 ∧ n = 0) ∨ ∃ cap, c = .slice (some ⟨(s.μ p).b, 0, none⟩) n cap ∧ n ≤ cap ∧ cap ≤ (s.μ p).tot ∧ cap ≠ 0 := by
  cases h with | bts _ _ _ _ h => unfold BAt at h; rw [hs] at h; exact h.2 hn
/-- append to a row of bytes of the call's own. -/
theorem op_appendB {x y : Operand} {t u E : TypeId} {i : TypeInfo} {z : Value} {d : TypeDesc} {p n : Nat} {l l2 : List UInt8} (ho : o.op = .call { callee := .builtin .append, args := #[x, y], argTypes := #[t, u] })
    (hd : d = .string ∨ ∃ E', d = .slice E') (ht : P.underlying t = some (.slice E)) (hu : P.underlying u = some d) (hi : P.info? E = some i) (hz : i.zero = some z) (hsz : i.size = 1) (hzs : z.cells.size = 1)
    (hx : opv e x = .bts p n) (hσ : σ[p]? = some (.bytes E l)) (hn : n = l.length) (hy : srcv σ (opv e y) = some (bav l2, l2.length)) (hys : szv (opv e y) 1)
    (hby : (n + l2.length) * i.bytes ≤ 140737488355328) (h63 : n + l2.length ≤ 9223372036854775807) :
    AOp P σ e o (.bts p (n + l2.length)) (σ.set p (.bytes E (l ++ l2))) := by
  intro s a hs g hv K Q hk _
  subst hs
  subst hn
  have hplt : p < s.σ.length := (List.getElem?_eq_some_iff.1 hσ).1
  obtain ⟨news, hp, hl, hf⟩ := (hv y (by simp [ho, Op.operands, Call.operands])).src g hy (by rw [← hsz] at hys; exact hys)
  have hnews := bav_pw hp
  subst hnews
  have hexec : ∀ {v v' : Value} {w' : World}, a.eval x = v → (Builtin.append_ #[t, u] o.type #[v, a.eval y]).run P s.w = .ok v' w' → (execOp a.eval o).run P s.w = .ok (.value v') w' := fun {v v' w'} h2 h3 => by
    simp only [execOp, ho, resolve, invoke, builtin, Sem.run_bind, Sem.run_pure, Result.andThen_ok, List.map_toArray, List.map_cons, List.map_nil, h2]
    rw [h3]; rfl
  have hxv := hx ▸ hv x (by simp [ho, Op.operands, Call.operands])
  have hval := hxv.inv_bts hσ rfl
  by_cases hm : l2 = []
  · subst hm
    obtain ⟨A, n', c, hA, hnc⟩ : ∃ A n' c, a.eval x = .slice A n' c ∧ n' ≤ c := by
      rcases hval with ⟨h, _⟩ | ⟨cap, h, hc, _⟩
      · exact ⟨none, 0, 0, h, Nat.le_refl _⟩
      · exact ⟨_, _, _, h, hc⟩
    have hset : s.σ.set p (.bytes E (l ++ [])) = s.σ := by
      rw [List.append_nil]
      have := (List.getElem?_eq_some_iff.1 hσ).2
      rw [← this]; exact List.set_getElem_self hplt
    refine wp_value (w' := s.w) (hexec hA (run_append_zero hd ht hu hi hl (hf _ rfl) hnc)) (hk _ _ s ⟨rfl, hset.symm⟩ g (Ext.refl s) ?_)
    rw [← hA]; exact hxv
  · have hm0 : 0 < l2.length := List.length_pos_iff.2 hm
    have hV : ∀ {s' : CS} {v : Value} {cap : Nat}, s'.σ = s.σ.set p (.bytes E (l ++ l2)) → v = .slice (some ⟨(s'.μ p).b, 0, none⟩) (l.length + l2.length) cap → l.length + l2.length ≤ cap → cap ≤ (s'.μ p).tot → V s' (.bts p (l.length + l2.length)) v := fun {s' v cap} h1 h2 h3 h4 => by
      subst h2
      have := BAt.mk (s := s') (p := p) (T := E) (l := l ++ l2) (R := fun m => (Value.slice (some ⟨(s'.μ p).b, 0, none⟩) (l.length + l2.length) cap = .slice none 0 0 ∧ l.length + l2.length = 0) ∨ ∃ cap', Value.slice (some ⟨(s'.μ p).b, 0, none⟩) (l.length + l2.length) cap = .slice (some ⟨m.b, 0, none⟩) (l.length + l2.length) cap' ∧ l.length + l2.length ≤ cap' ∧ cap' ≤ m.tot ∧ cap' ≠ 0) (by rw [h1]; simp [hplt]) (.inr ⟨cap, rfl, h3, h4, by omega⟩)
      rw [List.length_append] at this
      exact .bts _ _ _ rfl this
    have hnewblock : ∀ {A : Option Addr} {cap0 : Nat}, a.eval x = .slice A l.length cap0 → cap0 < l.length + l2.length → (Builtin.firstCells i.size l.length (.slice A l.length cap0)).run P s.w.drew = .ok (bcl l).toArray s.w.drew → o.wp P a s.w K Q := fun {A cap0} hA hroom hfo => by
      obtain ⟨rest, cap, hc1, hc2, hrun⟩ := run_append_new' (ty := o.type) (A := A) (sLen := l.length) (sCap := cap0) (olds := bcl l) (news := bcl l2) (x := a.eval y) hd ht hu hi hz hl (hf _ rfl) hfo hroom h63 hby
      have htot : (bcl l ++ bcl l2 ++ rest).length = cap := by
        simp only [List.length_append, bcl_len, hc2, hzs]; omega
      obtain ⟨s', e1, e2, g', x', hμ⟩ := g.renewB hσ (l' := l ++ l2) (by rw [List.length_append]; omega) ⟨s.w.heap.size, 0, (bcl l ++ bcl l2 ++ rest).length⟩ (w' := s.w.drew.alloc (.cells (bcl l ++ bcl l2 ++ rest).toArray E (0, 0)))
        (by rw [alloc_size]; exact Nat.le_succ _) rfl rfl rfl (fun b hb _ => by rw [alloc_heap, if_neg (by rw [drew_heap]; omega)]; rfl)
        ⟨.inr ⟨Nat.le_refl _, by rw [alloc_size]; exact Nat.lt_succ_self _⟩, by show (bcl l ++ bcl l2 ++ rest).length ≠ 0; omega, _, by rw [alloc_heap]; exact if_pos rfl, rfl, by show (l ++ l2).length ≤ (bcl l ++ bcl l2 ++ rest).length; rw [htot, List.length_append]; exact hc1, by
          rw [bcl_app, ← bcl_len (l ++ l2), bcl_app, List.take_left]⟩
      exact wp_value (w' := s'.w) (by rw [e2]; exact hexec hA hrun) (hk _ _ s' ⟨rfl, e1⟩ g' x' (hV e1 (by rw [hμ]) hc1 (by rw [hμ]; show cap ≤ (bcl l ++ bcl l2 ++ rest).length; omega)))
    rcases hval with ⟨hA, h0⟩ | ⟨cap, hA, hlc, hct, hc0⟩
    · have hl0 : l = [] := List.eq_nil_of_length_eq_zero h0
      subst hl0
      exact hnewblock hA (by simpa using hm0) (firstCells_nil none _)
    · have ht0 : (s.μ p).tot ≠ 0 := by omega
      have hlive : s.live p := by unfold CS.live; rw [hσ]; exact ht0
      obtain ⟨_, vs, T, hb, _, h7, h8, h9, rfl⟩ := g.rep hσ hlive
      by_cases hroom : l.length + l2.length ≤ cap
      · have hrun := run_append_room' (ty := o.type) (b := (s.μ p).b) (off := 0) (sLen := l.length) (sCap := cap) (x := a.eval y) (news := bcl l2) (cur := vs) (T := T) hd ht hu hi hl (hf _ rfl) hroom hb (by rw [hsz, bcl_len]; omega) (one_of_pw hp (bav_ones l2))
        simp only [hsz, Nat.mul_one, Nat.zero_add, bcl_len] at hrun
        obtain ⟨s', e1, e2, g', x', hμ⟩ := g.renewB hσ (l' := l ++ l2) (by rw [List.length_append]; omega) ⟨(s.μ p).b, 0, (s.μ p).tot⟩
          (w' := s.w.setRow (s.μ p).b (vs.take l.length ++ bcl l2 ++ vs.drop (l.length + l2.length)).toArray)
          (by simp) rfl rfl rfl (fun b _ hne => setRow_other _ _ _ _ (hne hlive))
          ⟨.inl ⟨rfl, hlive⟩, ht0, _, setRow_heap _ _ _ _ _ _ hb, by simp [bcl_len]; omega, by rw [List.length_append]; show _ ≤ (s.μ p).tot; omega, by
            rw [h9, bcl_app, ← bcl_len (l ++ l2), bcl_app, List.take_left]⟩
        exact wp_value (w' := s'.w) (by rw [e2]; exact hexec hA hrun) (hk _ _ s' ⟨rfl, e1⟩ g' x' (hV e1 (by rw [hμ]) hroom (by rw [hμ]; exact hct)))
      · refine hnewblock hA (by omega) ?_
        rw [hsz]
        refine run_firstCells_some s.w.drew 1 l.length _ l.length cap _ (by rw [bcl_len]; omega) fun j v hj => ?_
        rw [add_none]
        show s.w.cell? _ = _
        rw [cells_get hb, Nat.zero_add]
        rw [← h9, List.getElem?_take] at hj
        split at hj
        · exact hj
        · cases hj
end Lg
namespace Lg
open Go Go.RowKit
variable [GLay]
variable {P : Program} {N : Nat} {σ l : List AO} {e : Env} {Q : QA} {o : Oper}
/-- A nil slice in a cell of a box of the call's own becomes a row of bytes of no block. -/
theorem AWp_ghostInB {c : Code} (q i : Nat) (T : TypeId) {bs : List AV} (hq : σ[q]? = some (.box bs)) (hi : bs[i]? = some .nils) (k : AWp P N c e ((σ ++ [AO.bytes T []]).set q (.box (bs.set i (.bts σ.length 0)))) Q) : AWp P N c e σ Q := fun s0 s a hs g x he => by
  subst hs
  obtain ⟨s1, e1, e2, g1, x1⟩ := g.ghostB T
  have hqlt : q < s.σ.length := (List.getElem?_eq_some_iff.1 hq).1
  have hq1 : s1.σ[q]? = some (.box bs) := by rw [e1, List.getElem?_append_left hqlt]; exact hq
  have hlive1 : s1.live q := by unfold CS.live; rw [hq1]; trivial
  obtain ⟨_, vs, T', hb, hp⟩ := g1.rep hq1 hlive1
  have hp : PW s1 bs vs := hp
  obtain ⟨v, hv1, hv2⟩ := hp.get hi
  have hv0 := hv2.inv_nils
  have hv' : V s1 (.bts s.σ.length 0) v := by
    rw [hv0]
    exact .bts _ _ _ rfl (BAt.mk (T := T) (l := []) (by rw [e1]; simp) (.inl ⟨rfl, rfl⟩))
  have hset : vs.set i v = vs := by
    obtain ⟨h1, h2⟩ := List.getElem?_eq_some_iff.1 hv1
    rw [← h2]; exact List.set_getElem_self h1
  have hnew : PW s1 (bs.set i (.bts s.σ.length 0)) vs := by
    have := hp.set i hv'
    rwa [hset] at this
  obtain ⟨s2, f1, f2, g2, x2, _⟩ := g1.setObj hq1 hlive1 (o' := .box (bs.set i (.bts s.σ.length 0))) (.box _ _ (by simp)) trivial hnew
  have hw : s2.w = s.w := by rw [f2, ← e2, setRow_self _ _ _ _ _ hb]
  have := k s0 s2 a (by rw [f1, e1]) g2 ((x.trans x1).trans x2) ((he.mono g x1).mono g1 x2)
  rwa [hw] at this
/-- A new box, one of whose cells, a nil pointer, knows the box's type. -/
theorem Good.boxT {s : CS} (g : Good s) {cs : List AV} {vs : List Value} (h : PW s cs vs) (T : TypeId) (k : Nat) (hk : cs[k]? = some .nilp) :
    ∃ s', s'.σ = s.σ ++ [.box (cs.set k (.nilT s.σ.length T cs.length))] ∧ s'.w = s.w.alloc (.cells vs.toArray T (0, 0)) ∧ Good s' ∧ Ext s s' ∧
      V s' (.ptr s.σ.length 0) (.pointer (some ⟨s.w.heap.size, 0, none⟩)) := by
  obtain ⟨s1, e1, e2, g1, x1, hv⟩ := g.box h T
  have hq1 : s1.σ[s.σ.length]? = some (.box cs) := by rw [e1]; simp
  have hlive1 : s1.live s.σ.length := by unfold CS.live; rw [hq1]; trivial
  have hp : PW s1 cs vs := h.mono g x1
  have hμ : (s1.μ s.σ.length).b = s.w.heap.size := by
    have := hv.inv_ptr
    injection this with h1
    injection h1 with h1
    injection h1 with h1
    exact h1.symm
  have hb : s1.w.heap[(s1.μ s.σ.length).b]? = some (.cells vs.toArray T (0, 0)) := by rw [hμ, e2, alloc_heap, if_pos rfl]
  obtain ⟨v, hv1, hv2⟩ := hp.get hk
  have hv0 := hv2.inv_nilp
  have hv' : V s1 (.nilT s.σ.length T cs.length) v := by
    rw [hv0]
    refine .nilT _ _ _ ?_
    unfold BoxOf
    rw [hq1]
    show s1.w.shape? _ = _
    unfold World.shape?
    rw [hb]; simp [h.1]
  have hset : vs.set k v = vs := by
    obtain ⟨h1, h2⟩ := List.getElem?_eq_some_iff.1 hv1
    rw [← h2]; exact List.set_getElem_self h1
  have hnew : PW s1 (cs.set k (.nilT s.σ.length T cs.length)) vs := by
    have := hp.set k hv'
    rwa [hset] at this
  obtain ⟨s2, f1, f2, g2, x2, _⟩ := g1.setObj hq1 hlive1 (o' := .box (cs.set k (.nilT s.σ.length T cs.length))) (.box _ _ (by simp)) trivial hnew
  have hw : s2.w = s1.w := by rw [f2, setRow_self _ _ _ _ _ hb]
  refine ⟨s2, ?_, by rw [hw, e2], g2, x1.trans x2, hv.mono g1 x2⟩
  rw [f1, e1, List.set_append_right _ _ (Nat.le_refl _)]; simp
theorem op_boxT {T : TypeId} {x : Operand} {cs : List AV} (k : Nat) (ho : o.op = .box T x) (hx : (opv e x).cells = cs) (h1 : ones cs = true) (hk : cs[k]? = some .nilp) : AOp P σ e o (.ptr σ.length 0) (σ ++ [.box (cs.set k (.nilT σ.length T cs.length))]) := by
  intro s a hs g hv K Q hk' _
  subst hs
  subst hx
  obtain ⟨vs, hvs, hp, _⟩ := (hv x (by simp [ho, Op.operands])).cells h1
  obtain ⟨s', e1, e2, g', x', hv'⟩ := g.boxT hp T k hk
  refine wp_value (w' := s'.w) ?_ (hk' _ _ s' ⟨rfl, e1⟩ g' x' hv')
  have : (a.eval x).cells = vs.toArray := by rw [← hvs]
  rw [e2]
  simp [execOp, ho, Instr.box, newVar, newRow, newObj, this, Sem.run]
theorem op_allocT {T : TypeId} {z : Value} {cs : List AV} (k : Nat) (ho : o.op = .alloc T) (hz : ∀ w, (zeroValue T).run P w = Result.ok z w) (hx : z.cells.toList.map ofConst1 = cs) (hk : cs[k]? = some .nilp) : AOp P σ e o (.ptr σ.length 0) (σ ++ [.box (cs.set k (.nilT σ.length T cs.length))]) := by
  intro s a hs g hv K Q hk' _
  subst hs
  subst hx
  have hp : PW s (z.cells.toList.map ofConst1) z.cells.toList := ⟨by simp, fun i c v h1 h2 => by
    rw [List.getElem?_map, h2] at h1; simp at h1; subst h1; exact V_ofConst1 s v⟩
  obtain ⟨s', e1, e2, g', x', hv'⟩ := g.boxT hp T k hk
  refine wp_value (w' := s'.w) ?_ (hk' _ _ s' ⟨rfl, e1⟩ g' x' hv')
  rw [e2]
  simp [execOp, ho, Instr.alloc, hz, newVar, newRow, newObj, Sem.run]
theorem V.inv_nilT {s : CS} {p n : Nat} {T : TypeId} {c : Value} (h : V s (.nilT p T n) c) : c = .pointer none ∧ BoxOf s p T n := by cases h; exact ⟨rfl, by assumption⟩
section ptrs
variable {T E T' : TypeId} {x y : Operand}
theorem op_eqNT {p n : Nat} {U : TypeId} (ho : o.op = .binOp .eql T x y T') (hu : P.underlying T = some (.pointer E)) (hx : opO e x = some (.nilT p U n)) (hy : opO e y = some .nilp) : AOp P σ e o (.bool true) σ :=
  op_bin ho (opO_eq hx) (opO_eq hy) fun s cx cy _ _ h1 h2 => by
    have hp : P.pointee T = E := by simp [Program.pointee, hu]
    rw [h1.inv_nilT.1, h2.inv_nilp]
    exact ⟨_, run_eql_pointer_nil s.w T _ (by rw [hp]; exact hu), .bool _, eqGuard_ptr ..⟩
theorem op_nePS {p off : Nat} (ho : o.op = .binOp .neq T x y T') (hu : P.underlying T = some (.pointer E)) (hi : (P.info? E).isSome = true) (hx : opO e x = some (.ptr p off)) (hy : opO e y = some (.ptr p off)) : AOp P σ e o (.bool false) σ :=
  op_bin ho (opO_eq hx) (opO_eq hy) fun s cx cy _ _ h1 h2 => by
    obtain ⟨j, hj⟩ := Option.isSome_iff_exists.1 hi
    rw [h1.inv_ptr, h2.inv_ptr]
    exact ⟨_, Lib.run_neq_ptr_same s.w _ hu hj, .bool _, eqGuard_ptr ..⟩
theorem op_toUnsafe {p off : Nat} {cs : List AV} (ho : o.op = .convert T T' x) (hs : P.underlying T = some (.pointer E)) (hd : P.underlying T' = some .unsafePointer) (hi : (P.info? E).map (fun i => decide (i.size = 0)) = some false)
    (hx : opv e x = .ptr p off) (hσ : σ[p]? = some (.box cs)) (hoff : off < cs.length) : AOp P σ e o (.ptr p off) σ :=
  .of_run fun s a hs' g hv => by
    subst hs'
    have h1 := hx ▸ hv x (by simp [ho, Op.operands])
    obtain ⟨_, vs, U, hb, hp⟩ := g.obj p _ hσ
    obtain ⟨j, hj, hj0⟩ := Option.map_eq_some_iff.1 hi
    refine ⟨a.eval x, ?_, h1⟩
    have hsh : s.w.shape? (s.μ p).b = some (U, vs.length) := by unfold World.shape?; rw [hb]; simp
    have := Lib.run_to_unsafe (P := P) s.w ⟨(s.μ p).b, off, none⟩ hs hd hj (by simpa using hj0) hsh (by show off < vs.length; rw [hp.1]; exact hoff)
    simp only [execOp, ho, h1.inv_ptr, Sem.run_bind, this, Result.andThen_ok, Sem.run_pure]
theorem op_fromUnsafe {p off n : Nat} {U : TypeId} {cs : List AV} (ho : o.op = .convert T T' x) (hs : P.underlying T = some .unsafePointer) (hd : P.underlying T' = some (.pointer E)) (hi : (P.info? E).isSome = true)
    (hx : opv e x = .ptr p off) (hσ : σ[p]? = some (.box cs)) (hk : cs[off]? = some (.nilT p U n)) (hl : liesAt P P.depth U (n / P.cellsOf U) off E 1 = true) : AOp P σ e o (.ptr p off) σ :=
  .of_run fun s a hs' g hv => by
    subst hs'
    have h1 := hx ▸ hv x (by simp [ho, Op.operands])
    obtain ⟨_, vs, U', hb, hp⟩ := g.obj p _ hσ
    obtain ⟨v, _, hv2⟩ := hp.get hk
    have hbx := hv2.inv_nilT.2
    unfold BoxOf at hbx
    rw [hσ] at hbx
    obtain ⟨j, hj⟩ := Option.isSome_iff_exists.1 hi
    refine ⟨a.eval x, ?_, h1⟩
    have := Lib.run_from_unsafe (P := P) s.w ⟨(s.μ p).b, off, none⟩ hs hd hj hbx hl
    simp only [execOp, ho, h1.inv_ptr, Sem.run_bind, this, Result.andThen_ok, Sem.run_pure]
end ptrs
end Lg
namespace Lg
open Go Go.RowKit
variable [GLay]
variable {P : Program} {N : Nat} {σ l : List AO} {e : Env} {Q : QA} {o : Oper}
/-- A call of abi.NoEscape. -/
theorem op_noEsc {c x : Operand} {T : Array TypeId} {k : FuncId} {fn : Func} {p off : Nat} (ho : o.op = .call { callee := .value c, args := #[x], argTypes := T }) (hc : opv e c = .func (.func k) [] [])
    (hfn : P.funcs[k]? = some fn) (hname : (fn.name == "runtime.NumGoroutine") = false) (hb : fn.body.isNone = true) (hn : Extern.findNext fn = none) (he : Extern.find fn = some Extern.AbiNoEscape.same) (hx : opv e x = .ptr p off) : AOp P σ e o (.ptr p off) σ :=
  .of_run fun s a hs g hv => by
    have h1 := hx ▸ hv x (by simp [ho, Op.operands, Call.operands])
    have hcv := hc ▸ hv c (by simp [ho, Op.operands, Call.operands])
    obtain ⟨vf, vc, h2, h3, h4⟩ := hcv.inv_func
    have e3 := h3.inv_nil
    have e4 := h4.inv_nil
    subst e3; subst e4
    refine ⟨a.eval x, ?_, h1⟩
    simp only [execOp, ho, resolve, invoke, Deferred.ofValue, h2, Sem.run_bind, Sem.run_pure, Result.andThen_ok, List.map_toArray, List.map_cons, List.map_nil]
    have := run_callFunc_extern hfn hname hb hn he #[a.eval x] s.w
    rw [Lib.run_noEscape] at this
    simpa [Result.andThen] using this
theorem op_lenB {T E : TypeId} {x : Operand} {p n : Nat} {U : TypeId} {l : List UInt8} {c : Array TypeId} (ho : o.op = .call { callee := .builtin .len, args := #[x], argTypes := c }) (hc : c[0]? = some T) (hu : P.underlying T = some (.slice E))
    (hx : opv e x = .bts p n) (hσ : σ[p]? = some (.bytes U l)) (hn : n = l.length) : AOp P σ e o (.int .i64 n) σ :=
  .of_run fun s a hs _ hv => by
    subst hs
    have h1 := (hx ▸ hv x (by simp [ho, Op.operands, Call.operands])).inv_bts hσ hn
    have key : ∃ A k, a.eval x = .slice A n k := by
      rcases h1 with ⟨h, rfl⟩ | ⟨cap, h, _⟩
      · exact ⟨_, _, h⟩
      · exact ⟨_, _, h⟩
    obtain ⟨A, k, hk⟩ := key
    exact ⟨_, by simp [execOp, ho, resolve, invoke, builtin, hk, Builtin.len_, hc, run_underlying hu, goInt], .int _ _⟩
theorem op_sliceDataB {x : Operand} {p n : Nat} {U : TypeId} {l : List UInt8} {c : Array TypeId} (ho : o.op = .call { callee := .builtin .unsafeSliceData, args := #[x], argTypes := c })
    (hx : opv e x = .bts p n) (hσ : σ[p]? = some (.bytes U l)) (hn : n = l.length) : AOp P σ e o (.btp p n) σ :=
  .of_run fun s a hs g hv => by
    subst hs
    subst hn
    have h1 := (hx ▸ hv x (by simp [ho, Op.operands, Call.operands])).inv_bts hσ rfl
    have hV : ∀ {ad : Option Addr}, (l.length ≠ 0 → (s.μ p).tot ≠ 0 ∧ ad = some ⟨(s.μ p).b, 0, none⟩) → V s (.btp p l.length) (.pointer ad) := fun {ad} h =>
      .btp _ _ _ rfl (BAt.mk hσ ⟨ad, rfl, h⟩)
    rcases h1 with ⟨h, h0⟩ | ⟨cap, h, h2, h3, h4⟩
    · refine ⟨.pointer none, ?_, hV (fun k => absurd h0 k)⟩
      have := Lib.run_unsafeSliceData_nil (P := P) s.w c o.type 0 0
      simp only [execOp, ho, resolve, invoke, builtin, Sem.run_bind, Sem.run_pure, Result.andThen_ok, List.map_toArray, List.map_cons, List.map_nil, h, this]
    · refine ⟨.pointer (some ⟨(s.μ p).b, 0, none⟩), ?_, hV (fun k => ⟨by omega, rfl⟩)⟩
      have := Lib.run_unsafeSliceData_row (P := P) s.w c o.type ⟨(s.μ p).b, 0, none⟩ l.length cap h4
      simp only [execOp, ho, resolve, invoke, builtin, Sem.run_bind, Sem.run_pure, Result.andThen_ok, List.map_toArray, List.map_cons, List.map_nil, h, this]
/-- A row of bytes is no more; its block may have turned. -/
theorem Good.dropB {s : CS} (g : Good s) {p : Nat} {T : TypeId} {l : List UInt8} (ho : s.σ[p]? = some (.bytes T l)) {w' : World} (hsize : s.w.heap.size ≤ w'.heap.size) (htape : w'.tape = s.w.tape) (hos : w'.os = s.w.os) (hout : w'.output = s.w.output)
    (hfr : ∀ b, (s.live p → b ≠ (s.μ p).b) → w'.heap[b]? = s.w.heap[b]?) :
    ∃ s', s'.σ = s.σ.set p .dead ∧ s'.w = w' ∧ Good s' ∧ Ext s s' := by
  have hlt : p < s.σ.length := (List.getElem?_eq_some_iff.1 ho).1
  let s' : CS := { s with σ := s.σ.set p .dead, w := w' }
  have hother : ∀ {q : Nat}, q ≠ p → s'.σ[q]? = s.σ[q]? := fun {q} hq => by
    show (s.σ.set p _)[q]? = _; rw [List.getElem?_set, if_neg (fun e => hq e.symm)]
  have hthis : s'.σ[p]? = some .dead := by show (s.σ.set p _)[p]? = _; simp [hlt]
  have hlive' : ∀ {q : Nat}, s'.live q → s.live q ∧ q ≠ p := fun {q} hq => by
    by_cases e : q = p
    · subst e
      unfold CS.live at hq
      rw [hthis] at hq
      exact hq.elim
    · unfold CS.live at hq ⊢; rw [hother e] at hq; exact ⟨hq, e⟩
  have x : Ext s s' := {
    objs := fun q r hr => by
      by_cases e : q = p
      · subst e
        rw [ho] at hr; cases hr
        exact ⟨.dead, hthis, .bytesDead _ _, fun h => h.elim⟩
      · exact ⟨r, by rw [hother e]; exact hr, OLe.refl r, fun _ => rfl⟩
    ok := fun _ h => h
    okn := fun _ h => .inl h
    mun := fun q hq => .inl ⟨CS.live_lt (hlive' hq).1, (hlive' hq).1, rfl⟩
    frame := fun b _ hne => hfr b fun hl e => hne p hl e.symm
    size := hsize
    shp := fun q cs cs' z h1 _ h3 => by
      have e : q ≠ p := fun e => by subst e; rw [ho] at h1; cases h1
      have hq : s.live q := by unfold CS.live; rw [h1]; trivial
      exact (shape_eq (hfr _ fun hl => g.inj q p e hq hl)).trans h3
    tape := htape
    os := hos
    output := hout }
  refine ⟨s', rfl, rfl, ⟨fun b hb => Nat.lt_of_lt_of_le (g.okb b hb) hsize, fun q r hr => ?_, fun q q' hne h1 h2 => g.inj q q' hne (hlive' h1).1 (hlive' h2).1, fun b r hr => ?_⟩, x⟩
  · by_cases e : q = p
    · subst e
      rw [hthis] at hr; cases hr
      trivial
    · have hr' : s.σ[q]? = some r := by rw [← hother e]; exact hr
      exact ORep.keep g x hr' rfl (fun hq => (g.live_lt hq).2) (fun hq => hfr _ fun hl => g.inj q p e hq hl)
  · obtain ⟨h1, h2⟩ := g.glob b r hr
    exact ⟨h1, (hfr b fun hl e => (g.live_lt hl).2 (e ▸ h1)).trans h2⟩
/-- unsafe.String of a row of bytes of the call's own: the row is no more. -/
theorem op_unsafeStringB {x y : Operand} {p n : Nat} {pt it E : TypeId} {l : List UInt8} (ho : o.op = .call { callee := .builtin .unsafeString, args := #[x, y], argTypes := #[pt, it] })
    (hp : P.underlying pt = some (.pointer E)) (hc : P.cellsOf E = 1) (hx : opv e x = .btp p n) (hy : opv e y = .int .i64 n) (hσ : σ[p]? = some (.bytes E l)) (hn : n = l.length) (h63 : l.length ≤ 9223372036854775807) :
    AOp P σ e o (.str ⟨l.toArray⟩) (σ.set p .dead) := by
  intro s a hs g hv K Q hk _
  subst hs
  subst hn
  have hxv := hx ▸ hv x (by simp [ho, Op.operands, Call.operands])
  have hyv := (hy ▸ hv y (by simp [ho, Op.operands, Call.operands])).inv_int
  obtain ⟨ad, had, hne⟩ : ∃ ad, a.eval x = .pointer ad ∧ (l.length ≠ 0 → (s.μ p).tot ≠ 0 ∧ ad = some ⟨(s.μ p).b, 0, none⟩) := by
    cases hxv with | btp _ _ _ _ h => unfold BAt at h; rw [hσ] at h; exact h.2 rfl
  have hexec : ∀ {v : Value} {w' : World}, (Builtin.unsafeString_ #[pt, it] o.type #[.pointer ad, .int .i64 l.length]).run P s.w = .ok v w' → (execOp a.eval o).run P s.w = .ok (.value v) w' := fun {v w'} h => by
    simp only [execOp, ho, resolve, invoke, builtin, Sem.run_bind, Sem.run_pure, Result.andThen_ok, List.map_toArray, List.map_cons, List.map_nil, had, hyv]
    rw [h]; rfl
  by_cases h0 : l = []
  · subst h0
    obtain ⟨s', e1, e2, g', x'⟩ := g.dropB hσ (w' := s.w) (Nat.le_refl _) rfl rfl rfl (fun _ _ => rfl)
    exact wp_value (w' := s'.w) (by rw [e2]; exact hexec (Lib.run_unsafeString_none s.w pt it o.type ad)) (hk _ _ s' ⟨rfl, e1⟩ g' x' (.str _))
  · obtain ⟨ht0, rfl⟩ := hne (by simpa using h0)
    have hlive : s.live p := by unfold CS.live; rw [hσ]; exact ht0
    obtain ⟨_, vs, T, hb, _, h7, h8, h9, rfl⟩ := g.rep hσ hlive
    have hrun := Lib.run_unsafeString_row (P := P) s.w pt it o.type T hp hc (s.μ p).b vs.length (by unfold World.shape?; rw [hb]; simp) l h0 (by omega) h63 (fun j c hj => by
      rw [add_none, cells_get hb, Nat.zero_add]
      have h10 : (bcl l)[j]? = some (.int .u8 c.toNat) := by simp [bcl, hj]
      rw [← h9, List.getElem?_take] at h10
      split at h10
      · exact h10
      · cases h10)
    obtain ⟨s', e1, e2, g', x'⟩ := g.dropB hσ (w' := s.w.freeze ⟨(s.μ p).b, 0, none⟩ l.length) (by unfold World.freeze; split <;> simp) (by unfold World.freeze; split <;> rfl) (by unfold World.freeze; split <;> rfl) (by unfold World.freeze; split <;> rfl) (fun b hb' => by
      unfold World.freeze
      split
      · rfl
      · simp only [Array.getElem?_modify]
        rw [if_neg (fun e => hb' hlive e.symm)])
    exact wp_value (w' := s'.w) (by rw [e2]; exact hexec hrun) (hk _ _ s' ⟨rfl, e1⟩ g' x' (.str _))
end Lg
namespace Lg
open Go Go.RowKit
variable [GLay]
variable {P : Program} {N : Nat} {σ l : List AO} {e : Env} {Q : QA} {o : Oper}
theorem tk1_get : ∀ {cs : List AV} {k : Nat} {a : AV}, cs[k]? = some a → tk 1 (cs.drop k) = some [a]
  | [], k, a, h => by simp at h
  | c :: cs, 0, a, h => by simp at h; subst h; rfl
  | c :: cs, k + 1, a, h => by
    rw [List.drop_succ_cons]; exact tk1_get (by simpa using h)
theorem spl1_set : ∀ {cs : List AV} {k : Nat} (v : AV), k < cs.length → spl k cs [v] = some (cs.set k v)
  | [], k, v, h => by simp at h
  | c :: cs, 0, v, h => by simp [spl, putAt]
  | c :: cs, k + 1, v, h => by
    simp only [spl, spl1_set v (show k < cs.length by simpa using h), Option.map_some, List.set_cons_succ]
theorem ltL_set {n : Nat} {cs : List AV} {k : Nat} {a : AV} (h : AV.ltL n cs) (ha : a.lt n) : AV.ltL n (cs.set k a) := by
  rw [AV.ltL_iff] at h ⊢
  intro b hb
  rcases List.mem_or_eq_of_mem_set hb with h1 | h1
  · exact h b h1
  · rw [h1]; exact ha
theorem get_lt {p : Nat} {x : AO} (h : σ[p]? = some x) : p < σ.length := (List.getElem?_eq_some_iff.1 h).1
theorem closed_box {p : Nat} {cs : List AV} (hc : closed σ.length σ) (h : σ[p]? = some (.box cs)) : AV.ltL σ.length cs := hc p _ (get_lt h) h
theorem set_getB {p : Nat} (x : AO) (h : p < σ.length) : (σ.set p x)[p]? = some x := by simp [h]
theorem set_get_neB {p q : Nat} (x : AO) (h : p ≠ q) : (σ.set p x)[q]? = σ[q]? := by rw [List.getElem?_set, if_neg h]
section res
variable {τ : List AO} {n t1 t2 : Nat} {el : List (Nat × AV)} {v1 v2 : AV} {R : Out → List AO → Prop}
theorem ResQ_1H (hτ : τ.length = n) (h1 : lookO el t1 = some v1) (hc : closed n τ) (hv : v1.lt n) (hR : R (.ret v1) τ) : ResQ n [t1] R .ret ⟨[], el⟩ τ := by
  subst hτ; exact ResQ_10 h1 hc hv hR
theorem ResQ_2H (hτ : τ.length = n) (h1 : lookO el t1 = some v1) (h2 : lookO el t2 = some v2) (hc : closed n τ) (hv : (AV.tup [v1, v2]).lt n) (hR : R (.ret (.tup [v1, v2])) τ) : ResQ n [t1, t2] R .ret ⟨[], el⟩ τ := by
  subst hτ; exact ResQ_20 h1 h2 hc hv hR
theorem ResQ_NH (hτ : τ.length = n) (hc : closed n τ) (hR : R (.ret (.tup [])) τ) : ResQ n [] R .normal ⟨[], el⟩ τ := by
  subst hτ; exact ResQ_ret0 rfl hc trivial hR
end res
/-- A Builder in a box of the call's, or the caller's: its two cells. -/
structure BldT (P : Program) (B E : TypeId) (σ : List AO) (p off q : Nat) (cs : List AV) (l : List UInt8) : Prop where
  box : σ[p]? = some (.box cs)
  adr : cs[off]? = some (.ptr p off) ∨ ∃ U n, cs[off]? = some (.nilT p U n) ∧ liesAt P P.depth U (n / P.cellsOf U) off B 1 = true
  buf : cs[off + 1]? = some (.bts q l.length)
  row : σ[q]? = some (.bytes E l)
/-- The Builder's box behind a write. -/
def bcs (cs : List AV) (p off q n : Nat) : List AV := (cs.set off (.ptr p off)).set (off + 1) (.bts q n)
theorem BldT.ne {B E : TypeId} {p off q : Nat} {cs : List AV} {l : List UInt8} (h : BldT P B E σ p off q cs l) : p ≠ q := fun e => by
  have h1 := h.box; have h2 := h.row
  rw [e, h2] at h1; cases h1
end Lg
namespace Lg
open Go Go.RowKit
variable [GLay]
variable {P : Program} {N : Nat} {σ l : List AO} {e : Env} {Q : QA} {o : Oper}
section bitops
variable {T T' : TypeId} {x y : Operand} {k yk : IntKind} {n m r : Int}
theorem op_shr (ho : o.op = .binOp .shr T x y T') (hx : opv e x = .int k n) (hy : opv e y = .int yk m) (hm : 0 ≤ m) (hr : n / 2 ^ min m.toNat k.bits = r) : AOp P σ e o (.int k r) σ :=
  op_bin ho hx hy fun s cx cy _ _ h1 h2 => by
    rw [h1.inv_int, h2.inv_int]
    refine ⟨.int k r, ?_, .int _ _, by simp [eqGuard]⟩
    simp only [binOp]
    rw [shift_shr_any k yk n m hm, hr]
    rfl
theorem op_and (ho : o.op = .binOp .and T x y T') (hx : opv e x = .int k n) (hy : opv e y = .int k m) (hr : k.wrap ((BitVec.ofInt k.bits n &&& BitVec.ofInt k.bits m).toNat : Int) = r) : AOp P σ e o (.int k r) σ :=
  op_bin ho hx hy fun s cx cy _ _ h1 h2 => by
    rw [h1.inv_int, h2.inv_int]
    refine ⟨.int k r, ?_, .int _ _, by simp [eqGuard]⟩
    rw [← hr]
    simp [binOp, Op.intBits]
end bitops
theorem and15f : ∀ b : Fin 256, IntKind.u8.wrap ((BitVec.ofInt IntKind.u8.bits (b.val : Int) &&& BitVec.ofInt IntKind.u8.bits 15).toNat : Int) = ((b.val % 16 : Nat) : Int) := by decide +kernel
theorem and15 (b : UInt8) : IntKind.u8.wrap ((BitVec.ofInt IntKind.u8.bits (b.toNat : Int) &&& BitVec.ofInt IntKind.u8.bits 15).toNat : Int) = ((b.toNat % 16 : Nat) : Int) := and15f ⟨b.toNat, b.toNat_lt⟩
theorem shr4 (b : UInt8) : (b.toNat : Int) / 2 ^ min (4 : Int).toNat IntKind.u8.bits = ((b.toNat / 16 : Nat) : Int) := by
  show (b.toNat : Int) / 16 = _
  omega
/-- A Builder of the call's own, its first cell whatever it is, gets its row. -/
theorem AWp_ghostB0 {c : Code} {a : AV} (T : TypeId) (k : AWp P N c e (σ ++ [.box [a, .bts (σ.length + 1) 0], .bytes T []]) Q) : AWp P N c e (σ ++ [.box [a, .nils]]) Q := by
  refine AWp_ghostInB σ.length 1 T (bs := [a, .nils]) (by simp) rfl ?_
  have : ((σ ++ [AO.box [a, .nils]]) ++ [AO.bytes T []]).set σ.length (.box ([a, AV.nils].set 1 (.bts (σ ++ [AO.box [a, .nils]]).length 0))) = σ ++ [.box [a, .bts (σ.length + 1) 0], .bytes T []] := by
    rw [List.append_assoc, List.set_append_right _ _ (Nat.le_refl _), Nat.sub_self, List.length_append]
    rfl
  rw [this]; exact k
/-- What the call's own Builder holds. -/
def bldr (σ : List AO) (a : AV) (T : TypeId) (l : List UInt8) : List AO := σ ++ [.box [a, .bts (σ.length + 1) l.length], .bytes T l]
theorem bld_T {B E : TypeId} {a : AV} {l : List UInt8} (ha : a = .ptr σ.length 0 ∨ ∃ U n, a = .nilT σ.length U n ∧ liesAt P P.depth U (n / P.cellsOf U) 0 B 1 = true) : BldT P B E (bldr σ a E l) σ.length 0 (σ.length + 1) [a, .bts (σ.length + 1) l.length] l where
  box := by simp [bldr]
  adr := by
    rcases ha with rfl | ⟨U, n, rfl, h⟩
    · exact .inl rfl
    · exact .inr ⟨U, n, rfl, h⟩
  buf := rfl
  row := by simp [bldr]
theorem bld_set {E : TypeId} {a : AV} {l l' : List UInt8} : ((bldr σ a E l).set σ.length (.box (bcs [a, .bts (σ.length + 1) l.length] σ.length 0 (σ.length + 1) l'.length))).set (σ.length + 1) (.bytes E l') = bldr σ (.ptr σ.length 0) E l' := by
  unfold bldr bcs
  rw [List.set_append_right _ _ (Nat.le_refl _), Nat.sub_self, List.set_append_right _ _ (by omega), Nat.add_sub_cancel_left]
  rfl
theorem closed_bldr {T : TypeId} {a : AV} {l : List UInt8} (hc : closed σ.length σ) (ha : a.lt (σ.length + 2)) : closed (σ.length + 2) (bldr σ a T l) :=
  closed_own 2 hc (by simp [ownLt, AO.cells, AV.ltL, AV.lt, ha])
theorem take_bldr {T : TypeId} {a : AV} {l : List UInt8} : (bldr σ a T l).take (σ.length + 2) = bldr σ a T l := List.take_of_length_le (by simp [bldr])
end Lg
namespace Lg
open Go Go.RowKit
variable [GLay]
/-! ### A call beside which more objects lie -/
structure Agr (s s' : CS) : Prop where
  objs : ∀ p o, s.σ[p]? = some o → s'.σ[p]? = some o ∧ s'.μ p = s.μ p
  ok : ∀ b, s.ok b ↔ s'.ok b
  w : s'.w = s.w
section
variable {s s' : CS}
theorem ArrAt.agr {p g : Nat} {R : Nat → Pl → Prop} (x : Agr s s') (h : ArrAt s p g R) : ArrAt s' p g R := by
  unfold ArrAt at h ⊢
  cases e : s.σ[p]? with
  | none => rw [e] at h; exact h.elim
  | some o => obtain ⟨h1, h2⟩ := x.objs p o e; rw [h1, h2]; rw [e] at h; exact h
theorem BAt.agr {p n : Nat} {R : Pl → Prop} (x : Agr s s') (h : BAt s p n R) : BAt s' p n R := by
  unfold BAt at h ⊢
  cases e : s.σ[p]? with
  | none => rw [e] at h; exact h.elim
  | some o => obtain ⟨h1, h2⟩ := x.objs p o e; rw [h1, h2]; rw [e] at h; exact h
theorem BoxOf.agr {p n : Nat} {T : TypeId} (x : Agr s s') (h : BoxOf s p T n) : BoxOf s' p T n := by
  unfold BoxOf at h ⊢
  cases e : s.σ[p]? with
  | none => rw [e] at h; exact h.elim
  | some o => obtain ⟨h1, h2⟩ := x.objs p o e; rw [h1, h2, x.w]; rw [e] at h; exact h
theorem V.agr (x : Agr s s') {a : AV} {v : Value} (h : V s a v) : V s' a v := by
  induction h with
  | any v => exact .any v
  | bool b => exact .bool b
  | int k n => exact .int k n
  | str x => exact .str x
  | nilp => exact .nilp
  | nilT p T n h => exact .nilT p T n (h.agr x)
  | ptr p off o h hb =>
    obtain ⟨h1, h2⟩ := x.objs p o h
    rw [← h2]; exact .ptr p off o h1 hb
  | pel p gg i v h1 h => exact .pel p gg i v h1 (h.agr x)
  | pp cs b off vs hok hl hc hv ih => exact .pp cs b off vs ((x.ok b).1 hok) hl (by rw [x.w]; exact hc) ih
  | nils => exact .nils
  | sl full sz es b off cap vs hok hsz hl hc hv hcap hf ih => exact .sl full sz es b off cap vs (hok.imp id (x.ok b).1) hsz hl (by rw [x.w]; exact hc) ih hcap hf
  | sl0 full sz ad => exact .sl0 full sz ad
  | arr p gg sz off len v h1 h => exact .arr p gg sz off len v h1 (h.agr x)
  | arrC p gg sz off len cap v h1 h => exact .arrC p gg sz off len cap v h1 (h.agr x)
  | bts p n v h1 h => exact .bts p n v h1 (h.agr x)
  | btp p n v h1 h => exact .btp p n v h1 (h.agr x)
  | nilm => exact .nilm
  | mapv p l h =>
    obtain ⟨h1, h2⟩ := x.objs p _ h
    rw [← h2]; exact .mapv p l h1
  | func fn f c vf vc hf hc h1 h2 ih1 ih2 => exact .func fn f c vf vc hf hc ih1 ih2
  | nilf => exact .nilf
  | iface T a v h ih => exact .iface T a v ih
  | nili => exact .nili
  | agg cs vs hl hv ih => exact .agg cs vs hl ih
  | tup cs vs hl hv ih => exact .tup cs vs hl ih
theorem PW.agr (x : Agr s s') {cs : List AV} {vs : List Value} (h : PW s cs vs) : PW s' cs vs := ⟨h.1, fun i c v h1 h2 => (h.2 i c v h1 h2).agr x⟩
theorem ORep.agr (x : Agr s s') {p : Nat} {o : AO} (hm : s'.μ p = s.μ p) (h : ORep s p o) : ORep s' p o := by
  cases o with
  | box cs => obtain ⟨h1, vs, T, h2, h3⟩ := h; exact ⟨by rw [hm]; exact fun k => h1 ((x.ok _).2 k), vs, T, by rw [hm, x.w]; exact h2, h3.agr x⟩
  | arr sz gg cs =>
    rcases h with ⟨h1, h2⟩ | ⟨h0, h1, vs, T, h2, h3, h4, h5⟩
    · exact .inl ⟨by rw [hm]; exact h1, h2⟩
    · exact .inr ⟨by rw [hm]; exact h0, by rw [hm]; exact fun k => h1 ((x.ok _).2 k), vs, T, by rw [hm, x.w]; exact h2, by rw [hm]; exact h3, by rw [hm]; exact h4, by rw [hm]; exact h5.agr x⟩
  | bytes T l =>
    rcases h with ⟨h1, h2⟩ | ⟨h0, h1, vs, h2, h3, h4, h5⟩
    · exact .inl ⟨by rw [hm]; exact h1, h2⟩
    · exact .inr ⟨by rw [hm]; exact h0, by rw [hm]; exact fun k => h1 ((x.ok _).2 k), vs, by rw [hm, x.w]; exact h2, by rw [hm]; exact h3, by rw [hm]; exact h4, h5⟩
  | gone => trivial
  | dead => trivial
  | map l => obtain ⟨h1, es, c, h2, h3⟩ := h; exact ⟨by rw [hm]; exact fun k => h1 ((x.ok _).2 k), es, c, by rw [hm, x.w]; exact h2, h3.agr x⟩
end
theorem Good.glue {s t : CS} {n : Nat} (g : Good s) (gt : Good t) (x : Ext (s.cut n) t) (hn : n ≤ s.σ.length) (hl : t.σ.length = n) :
    ∃ s', s'.σ = t.σ ++ s.σ.drop n ∧ s'.w = t.w ∧ Good s' ∧ Ext s s' ∧ Agr t s' := by
  let s' : CS := { σ := t.σ ++ s.σ.drop n, μ := fun p => if p < n then t.μ p else s.μ p, ok := t.ok, w := t.w }
  have hlo : ∀ {p : Nat}, p < n → s'.σ[p]? = t.σ[p]? ∧ s'.μ p = t.μ p := fun {p} h => ⟨List.getElem?_append_left (by omega), if_pos h⟩
  have hhi : ∀ {p : Nat}, n ≤ p → s'.σ[p]? = s.σ[p]? ∧ s'.μ p = s.μ p := fun {p} h => ⟨by
    show (t.σ ++ s.σ.drop n)[p]? = _
    rw [List.getElem?_append_right (by omega), List.getElem?_drop]; congr 1; omega, if_neg (by omega)⟩
  have hcut : ∀ {p : Nat}, p < n → (s.cut n).σ[p]? = s.σ[p]? := fun {p} h => by show (s.σ.take n)[p]? = _; rw [List.getElem?_take, if_pos h]
  have lcut : ∀ {p : Nat}, p < n → s.live p → (s.cut n).live p := fun {p} h k => by unfold CS.live at *; rw [hcut h]; exact k
  have lcut' : ∀ {p : Nat}, (s.cut n).live p → p < n ∧ s.live p := fun {p} k => by
    have h1 := CS.live_lt k
    have h2 : (s.cut n).σ.length = n := by show (s.σ.take n).length = n; rw [List.length_take]; omega
    refine ⟨by omega, ?_⟩
    unfold CS.live at *; rw [hcut (by omega)] at k; exact k
  have llo : ∀ {p : Nat}, p < n → s'.live p → t.live p := fun {p} h k => by unfold CS.live at *; rw [(hlo h).1, (hlo h).2] at k; exact k
  have lhi : ∀ {p : Nat}, n ≤ p → s'.live p → s.live p := fun {p} h k => by unfold CS.live at *; rw [(hhi h).1, (hhi h).2] at k; exact k
  have hfr : ∀ b, b < s.w.heap.size → (∀ p, s.live p → (s.μ p).b ≠ b) → t.w.heap[b]? = s.w.heap[b]? := fun b hb hp => x.frame b hb (fun p hp' => hp p (lcut' hp').2)
  have hhb : ∀ {p : Nat}, n ≤ p → s.live p → t.w.heap[(s.μ p).b]? = s.w.heap[(s.μ p).b]? := fun {p} h k => x.frame _ (g.live_lt k).1 (fun q hq => g.inj q p (by have := (lcut' hq).1; omega) (lcut' hq).2 k)
  have hho : ∀ {p : Nat}, n ≤ p → s.live p → ¬ t.ok (s.μ p).b := fun {p} h k ho => by
    rcases x.okn _ ho with h1 | h1 | ⟨q, h1, h2⟩
    · exact (g.live_lt k).2 h1
    · have := (g.live_lt k).1; have : s.w.heap.size ≤ (s.μ p).b := h1; omega
    · exact g.inj q p (by have := (lcut' h1).1; omega) (lcut' h1).2 k h2
  have hx : Ext s s' := {
    objs := fun p o h => by
      rcases Nat.lt_or_ge p n with hp | hp
      · obtain ⟨o', h1, h2, h3⟩ := x.objs p o ((hcut hp).trans h)
        exact ⟨o', (hlo hp).1.trans h1, h2, fun hs => (hlo hp).2.trans (h3 hs)⟩
      · exact ⟨o, (hhi hp).1.trans h, OLe.refl o, fun _ => (hhi hp).2⟩
    ok := fun b h => x.ok b h
    okn := fun b h => by
      rcases x.okn b h with h1 | h1 | ⟨q, h1, h2⟩
      · exact .inl h1
      · exact .inr (.inl h1)
      · exact .inr (.inr ⟨q, (lcut' h1).2, h2⟩)
    mun := fun p h => by
      rcases Nat.lt_or_ge p n with hp | hp
      · rw [(hlo hp).2]
        rcases x.mun p (llo hp h) with ⟨h1, h2, h3⟩ | h1
        · exact .inl ⟨by omega, (lcut' h2).2, h3⟩
        · exact .inr h1
      · have k := lhi hp h
        exact .inl ⟨CS.live_lt k, k, by rw [(hhi hp).2]⟩
    frame := hfr
    size := x.size
    shp := fun p cs cs' z h1 h2 h3 => by
      rcases Nat.lt_or_ge p n with hp | hp
      · rw [(hlo hp).2]; exact x.shp p cs cs' z ((hcut hp).trans h1) ((hlo hp).1.symm.trans h2) h3
      · have k : s.live p := by unfold CS.live; rw [h1]; trivial
        rw [(hhi hp).2]; exact (shape_eq (hhb hp k)).trans h3
    tape := x.tape
    os := x.os
    output := x.output }
  have ha : Agr t s' := ⟨fun p o h => by
    have hp : p < n := by have := (List.getElem?_eq_some_iff.1 h).1; omega
    exact ⟨(hlo hp).1.trans h, (hlo hp).2⟩, fun b => Iff.rfl, rfl⟩
  refine ⟨s', rfl, rfl, ⟨gt.okb, fun p o ho => ?_, fun p q hpq hp hq => ?_, gt.glob⟩, hx, ha⟩
  · rcases Nat.lt_or_ge p n with hp | hp
    · exact (gt.obj p o ((hlo hp).1.symm.trans ho)).agr ha (hlo hp).2
    · have ho' := (hhi hp).1.symm.trans ho
      by_cases k : s.live p
      · exact (g.obj p o ho').mono g hx (hhi hp).2 (fun _ => hho hp k) (fun ob hb _ => (hhb hp k).trans hb)
      · exact ORep.idle (hhi hp).2 ho' (g.obj p o ho') k
  · rcases Nat.lt_or_ge p n with hp' | hp' <;> rcases Nat.lt_or_ge q n with hq' | hq'
    · rw [(hlo hp').2, (hlo hq').2]; exact gt.inj p q hpq (llo hp' hp) (llo hq' hq)
    · rw [(hlo hp').2, (hhi hq').2]
      have k := lhi hq' hq
      rcases x.mun p (llo hp' hp) with ⟨h1, h2, h3⟩ | h1
      · rw [h3]; exact g.inj p q hpq (lcut' h2).2 k
      · have := (g.live_lt k).1; have : s.w.heap.size ≤ (t.μ p).b := h1; omega
    · rw [(hhi hp').2, (hlo hq').2]
      have k := lhi hp' hp
      rcases x.mun q (llo hq' hq) with ⟨h1, h2, h3⟩ | h1
      · rw [h3]; exact g.inj p q hpq k (lcut' h2).2
      · have := (g.live_lt k).1; have : s.w.heap.size ≤ (t.μ q).b := h1; omega
    · rw [(hhi hp').2, (hhi hq').2]; exact g.inj p q hpq (lhi hp' hp) (lhi hq' hq)
/-- What a call does it does with more objects behind its own, too. -/
theorem ACalls_suffix {P : Program} {f : FuncId} {args : List AV} {σ ρ : List AO} {R : Out → List AO → Prop} (h : ACalls P f args σ R) (hc : closed σ.length σ) (ha : AV.ltL σ.length args) (hl : ∀ r τ, R r τ → τ.length = σ.length) :
    ACalls P f args (σ ++ ρ) fun r τ => ∃ τ0, τ = τ0 ++ ρ ∧ R r τ0 := by
  intro s cargs hs g hp
  have hn : σ.length ≤ s.σ.length := by rw [hs]; simp
  have htake : s.σ.take σ.length = σ := by rw [hs]; simp
  have hdrop : s.σ.drop σ.length = ρ := by rw [hs]; simp
  have g1 : Good (s.cut σ.length) := g.cut fun p o hpn ho => hc p o hpn (by rw [hs, List.getElem?_append_left hpn] at ho; exact ho)
  have hp1 : PW (s.cut σ.length) args cargs := ⟨hp.1, fun i c v h1 h2 => (hp.2 i c v h1 h2).cut ((AV.ltL_iff _ _).1 ha c (List.mem_of_getElem? h1))⟩
  refine (h (s.cut σ.length) cargs htake g1 hp1).mono fun e w' hq => ?_
  obtain ⟨t, rfl, gt, xt, hr⟩ := hq
  cases e with
  | returned cv =>
    obtain ⟨v, hv, hR⟩ := hr
    obtain ⟨s', e1, e2, e3, e4, e5⟩ := g.glue gt xt hn (hl _ _ hR)
    exact ⟨s', e2, e3, e4, v, hv.agr e5, t.σ, by rw [e1, hdrop], hR⟩
  | outgrown => exact hr.elim
  | panicked ch =>
    cases ch with
    | nil => exact hr.elim
    | cons en r =>
      cases r with
      | nil =>
        obtain ⟨h1, v, hv, hR⟩ := hr
        obtain ⟨s', e1, e2, e3, e4, e5⟩ := g.glue gt xt hn (hl _ _ hR)
        exact ⟨s', e2, e3, e4, h1, v, hv.agr e5, t.σ, by rw [e1, hdrop], hR⟩
      | cons => exact hr.elim
theorem ACalls_suf {P : Program} {f : FuncId} {args : List AV} {σ ρ σ' : List AO} {v : AV} (h : ACalls P f args σ (Ret v σ')) (hc : closed σ.length σ) (ha : AV.ltL σ.length args) (hl : σ'.length = σ.length) : ACalls P f args (σ ++ ρ) (Ret v (σ' ++ ρ)) :=
  (ACalls_suffix (ρ := ρ) h hc ha (fun r τ hr => by rw [hr.2]; exact hl)).mono fun r τ hr => by
    obtain ⟨τ0, h1, h2⟩ := hr
    exact ⟨h2.1, by rw [h1, h2.2]⟩
end Lg
namespace Lg
open Go
def jsign (n : JNum) : Int := if n.digits = ⟨#[]⟩ then 0 else if n.neg = true then -1 else 1
def cmpI (a b : Int) : Int := if a < b then -1 else if b < a then 1 else 0
def cmpS (a b : ByteArray) : Int := if blt a b = true then -1 else if (blt a b || decide (a = b)) = false then 1 else 0
def pCmp (a b : JNum) : Int := if jsign a = jsign b then jsign a * (if cmpI (a.digits.size + a.exp) (b.digits.size + b.exp) = 0 then cmpS a.digits b.digits else cmpI (a.digits.size + a.exp) (b.digits.size + b.exp)) else cmpI (jsign a) (jsign b)
def zer (k : Int) : BL := List.replicate k.toNat 48
/-- A number's digits, up to a power of ten. -/
def jexp (n : JNum) (low : Int) : ByteArray := if n.digits = ⟨#[]⟩ then ⟨#[]⟩ else n.digits ++ ba (zer (n.exp - low))
def lessS (x y : ByteArray) : Bool := if x.size = y.size then blt x y else decide (x.size < y.size)
def rLess (a b : JNum) : Bool :=
  if a.neg = b.neg then (if a.neg = true then lessS (jexp b (min a.exp b.exp)) (jexp a (min a.exp b.exp)) else lessS (jexp a (min a.exp b.exp)) (jexp b (min a.exp b.exp))) else a.neg
def rCmp (a b : JNum) : Int := if rLess a b = true then -1 else if rLess b a = true then 1 else 0
def itoaB (n : Int) : ByteArray := ba (Lib.itoa n)
theorem dd_small {u : Nat} (h : u < 10) : Lib.decDigits u = [UInt8.ofNat (48 + u)] := by rw [Lib.decDigits, dif_pos h]
theorem dd_big {u : Nat} (h : ¬ u < 10) : Lib.decDigits u = Lib.decDigits (u / 10) ++ [UInt8.ofNat (48 + u % 10)] := by rw [Lib.decDigits, dif_neg h]
theorem itoa_neg {n : Int} (h : n < 0) : itoaB n = (⟨#[45]⟩ : ByteArray) ++ itoaB (-n) := by
  unfold itoaB Lib.itoa
  rw [if_pos h, if_neg (by omega), show n.natAbs = (-n).toNat by omega]
  have : (⟨#[45]⟩ : ByteArray) = ba [45] := rfl
  rw [this, ba_app]; rfl
theorem itoa_small {n : Int} (h : 0 ≤ n) (h1 : n < 10) : itoaB n = ⟨#[u8b (48 + n)]⟩ := by
  unfold itoaB Lib.itoa
  rw [if_neg (by omega), dd_small (by omega)]
  have e : u8b (48 + n) = UInt8.ofNat (48 + n.toNat) := by unfold u8b; congr 1; omega
  rw [e]; rfl
theorem itoa_big {n : Int} (h1 : 10 ≤ n) : itoaB n = itoaB (n / 10) ++ (⟨#[u8b (48 + n % 10)]⟩ : ByteArray) := by
  unfold itoaB Lib.itoa
  rw [if_neg (by omega), if_neg (by omega), dd_big (by omega)]
  have e : u8b (48 + n % 10) = UInt8.ofNat (48 + n.toNat % 10) := by unfold u8b; congr 1; omega
  have e2 : (⟨#[u8b (48 + n % 10)]⟩ : ByteArray) = ba [UInt8.ofNat (48 + n.toNat % 10)] := by rw [e]; rfl
  rw [e2, ba_app]
  congr 3; omega
theorem dd_len (u : Nat) : ∀ k, u < 10 ^ (k + 1) → (Lib.decDigits u).length ≤ k + 1 := by
  intro k
  induction k generalizing u with
  | zero => intro h; rw [dd_small (by simpa using h)]; exact Nat.le_refl _
  | succ k ih =>
    intro h
    by_cases h1 : u < 10
    · rw [dd_small h1]; simp
    · rw [dd_big h1, List.length_append]
      have := ih (u / 10) (by rw [Nat.pow_succ] at h; omega)
      simp; omega
theorem itoa_size {n : Int} (h0 : -9223372036854775808 ≤ n) (h1 : n ≤ 9223372036854775807) : (itoaB n).size ≤ 21 := by
  unfold itoaB
  rw [ba_size]
  unfold Lib.itoa
  split
  · have := dd_len n.natAbs 19 (by omega)
    simp; omega
  · have := dd_len n.toNat 19 (by omega); omega
def jshow (n : JNum) : ByteArray :=
  if n.digits = ⟨#[]⟩ then ⟨#[48]⟩ else
  if n.exp = 0 then (if n.neg = true then (⟨#[45]⟩ : ByteArray) ++ n.digits else n.digits) else (if n.neg = true then (⟨#[45]⟩ : ByteArray) ++ n.digits else n.digits) ++ (⟨#[101]⟩ : ByteArray) ++ itoaB n.exp
def rWhole (n : JNum) : Bool := decide (n.digits = ⟨#[]⟩) || decide (0 ≤ n.exp)
theorem pParts_no {l : BL} (h : (l.takeWhile isD).length = 0 ∨ (1 < (l.takeWhile isD).length ∧ l.headD 0 = 48)) : pParts l = ([], [], [], false) := by unfold pParts; rw [if_pos h]
theorem pParts_none {l : BL} (h : ¬ ((l.takeWhile isD).length = 0 ∨ (1 < (l.takeWhile isD).length ∧ l.headD 0 = 48))) (h2 : pFrac (l.dropWhile isD) = none) : pParts l = ([], [], [], false) := by unfold pParts; rw [if_neg h, h2]
theorem pParts_some {l : BL} {f r : BL} (h : ¬ ((l.takeWhile isD).length = 0 ∨ (1 < (l.takeWhile isD).length ∧ l.headD 0 = 48))) (h2 : pFrac (l.dropWhile isD) = some (f, r)) : pParts l = (l.takeWhile isD, f, (pExp r).1, (pExp r).2) := by unfold pParts; rw [if_neg h, h2]
end Lg
namespace Lg
open Go
theorem hdC_true {c : UInt8} {l : BL} (h : hdC c l = true) : ∃ b q, l = b :: q ∧ b.toNat = c.toNat := by
  cases l with
  | nil => simp [hdC] at h
  | cons b q => exact ⟨b, q, rfl, by simpa [hdC] using h⟩
theorem hdC_strip {c : UInt8} {l : BL} (h : hdC c l = false) : strip c.toNat l = l := by
  cases l with
  | nil => rfl
  | cons b q => exact strip_ne (by simpa [hdC] using h)
theorem hdC_cons (c b : UInt8) (q : BL) : hdC c (b :: q) = decide (b.toNat = c.toNat) := rfl
theorem strip_ne_iff (c : UInt8) (l : BL) : (strip c.toNat l ≠ l) ↔ hdC c l = true := by
  cases l with
  | nil => simp [strip, hdC]
  | cons b r =>
    by_cases h : b.toNat = c.toNat
    · rw [strip_eq h]; simp only [hdC, h, decide_true, iff_true]
      intro e; have := congrArg List.length e; simp at this
    · rw [strip_ne h]; simp [hdC, h]
theorem pFrac_dot {b : UInt8} {q : BL} (h : b.toNat = 46) (h2 : ¬ (q.takeWhile isD).length = 0) : pFrac (b :: q) = some (q.takeWhile isD, q.dropWhile isD) := by
  simp only [pFrac]; rw [if_pos h, if_neg (by rw [List.isEmpty_iff_length_eq_zero]; exact h2)]
theorem pFrac_bad {b : UInt8} {q : BL} (h : b.toNat = 46) (h2 : (q.takeWhile isD).length = 0) : pFrac (b :: q) = none := by
  simp only [pFrac]; rw [if_pos h, if_pos (by rw [List.isEmpty_iff_length_eq_zero]; exact h2)]
theorem pFrac_not {l : BL} (h : hdC 46 l = false) : pFrac l = some ([], l) := by
  cases l with
  | nil => rfl
  | cons b q => simp only [pFrac]; rw [if_neg (by simpa [hdC] using h)]
theorem pFrac_len {l f r : BL} (h : pFrac l = some (f, r)) : f.length + r.length ≤ l.length := by
  cases l with
  | nil => simp [pFrac] at h; obtain ⟨rfl, rfl⟩ := h; simp
  | cons b q =>
    simp only [pFrac] at h
    split at h
    · split at h
      · cases h
      · simp only [Option.some.injEq, Prod.mk.injEq] at h
        obtain ⟨rfl, rfl⟩ := h
        have := congrArg List.length (List.takeWhile_append_dropWhile (p := isD) (l := q))
        simp only [List.length_append, List.length_cons] at this ⊢; omega
    · simp only [Option.some.injEq, Prod.mk.injEq] at h
      obtain ⟨rfl, rfl⟩ := h
      simp
theorem pExp2 (b : UInt8) (q : BL) : (pExp (b :: q)).2 = ((decide (b.toNat = 101) || decide (b.toNat = 69)) && (!decide (strip 45 (strip 43 q) = []) && (decide (((strip 45 (strip 43 q)).takeWhile isD).length = (strip 45 (strip 43 q)).length) && !(hdC 43 q && decide (strip 45 (strip 43 q) ≠ strip 43 q))))) := by
  have h43 : decide (strip 43 q ≠ q) = hdC 43 q := by
    have := strip_ne_iff 43 q
    have e : (43 : UInt8).toNat = 43 := rfl
    rw [e] at this
    cases h : hdC 43 q with
    | true => exact decide_eq_true (this.2 h)
    | false => exact decide_eq_false (fun k => by rw [this.1 k] at h; cases h)
  have hn : (strip 45 (strip 43 q)).isEmpty = decide (strip 45 (strip 43 q) = []) := by cases strip 45 (strip 43 q) <;> rfl
  unfold pExp
  simp only [h43, hn]
theorem pExp3 (b : UInt8) (q : BL) : (pExp (b :: q)).2 = ((decide ((b.toNat : Int) = 101) || decide ((b.toNat : Int) = 69)) && (!decide (strip 45 (strip 43 q) = []) && (decide ((((strip 45 (strip 43 q)).takeWhile isD).length : Int) = ((ba (strip 45 (strip 43 q))).size : Int)) && !(hdC 43 q && decide (strip 45 (strip 43 q) ≠ strip 43 q))))) := by
  rw [pExp2]
  have e1 : decide ((b.toNat : Int) = 101) = decide (b.toNat = 101) := decide_eq_decide.2 (by omega)
  have e2 : decide ((b.toNat : Int) = 69) = decide (b.toNat = 69) := decide_eq_decide.2 (by omega)
  have e3 : decide ((((strip 45 (strip 43 q)).takeWhile isD).length : Int) = ((ba (strip 45 (strip 43 q))).size : Int)) = decide (((strip 45 (strip 43 q)).takeWhile isD).length = (strip 45 (strip 43 q)).length) := decide_eq_decide.2 (by rw [ba_size]; omega)
  rw [e1, e2, e3]
end Lg
namespace Lg
open Go
/-! ### A text in quotes -/
def hxd (n : Nat) : UInt8 := (([48, 49, 50, 51, 52, 53, 54, 55, 56, 57, 97, 98, 99, 100, 101, 102] : BL).getD n 0)
def qch (b : UInt8) : BL := if b.toNat = 34 ∨ b.toNat = 92 then [92, b] else if b.toNat < 32 then [92, 117, 48, 48, hxd (b.toNat / 16), hxd (b.toNat % 16)] else [b]
def qbody (l : BL) : BL := l.flatMap qch
def quoteL (l : BL) : BL := 34 :: qbody l ++ [34]
theorem qch_len (b : UInt8) : (qch b).length ≤ 6 := by unfold qch; split <;> (try split) <;> simp
theorem qbody_len (l : BL) : (qbody l).length ≤ 6 * l.length := by
  induction l with
  | nil => simp [qbody]
  | cons b l ih =>
    have := qch_len b
    simp only [qbody, List.flatMap_cons, List.length_append, List.length_cons] at *
    omega
theorem qbody_snoc (l : BL) (b : UInt8) : qbody (l ++ [b]) = qbody l ++ qch b := by simp [qbody]
theorem qbody_take {l : BL} {i : Nat} (h : i < l.length) : qbody (l.take (i + 1)) = qbody (l.take i) ++ qch (l.getD i 0) := by rw [take_snoc h, qbody_snoc]
theorem qch1 {b : UInt8} (h : b.toNat = 34 ∨ b.toNat = 92) : qch b = [92, b] := by unfold qch; rw [if_pos h]
theorem qch2 {b : UInt8} (h : ¬ (b.toNat = 34 ∨ b.toNat = 92)) (h2 : b.toNat < 32) : qch b = [92, 117, 48, 48, hxd (b.toNat / 16), hxd (b.toNat % 16)] := by unfold qch; rw [if_neg h, if_pos h2]
theorem qch3 {b : UInt8} (h : ¬ (b.toNat = 34 ∨ b.toNat = 92)) (h2 : ¬ b.toNat < 32) : qch b = [b] := by unfold qch; rw [if_neg h, if_neg h2]
end Lg
namespace Lg
open Go
/-! ### A value's canonical text -/
def nullL : BL := [110, 117, 108, 108]
def trueL : BL := [116, 114, 117, 101]
def falseL : BL := [102, 97, 108, 115, 101]
mutual
def jtx : JV → BL
  | .mk k b n s l m => if k = 1 then (if b then trueL else falseL) else if k = 2 then (jshow n).data.toList else if k = 3 then quoteL s.data.toList else
    if k = 4 then ljw 91 l ++ (if l.length = 0 then [91, 93] else [93]) else if k = 5 then mjw 123 m ++ (if m.length = 0 then [123, 125] else [125]) else nullL
def ljw (c : UInt8) : List JV → BL
  | [] => []
  | x :: r => c :: (jtx x ++ ljw 44 r)
def mjw (c : UInt8) : List (ByteArray × JV) → BL
  | [] => []
  | (k, x) :: r => c :: (quoteL k.data.toList ++ 58 :: (jtx x ++ mjw 44 r))
end
theorem jtx_eq (v : JV) : jtx v = if v.kind = 1 then (if v.b then trueL else falseL) else if v.kind = 2 then (jshow v.n).data.toList else if v.kind = 3 then quoteL v.s.data.toList else
    if v.kind = 4 then ljw 91 v.l ++ (if v.l.length = 0 then [91, 93] else [93]) else if v.kind = 5 then mjw 123 v.m ++ (if v.m.length = 0 then [123, 125] else [125]) else nullL := by
  cases v; rw [jtx]; rfl
theorem ljw_snoc : ∀ (l : List JV) (c : UInt8) (x : JV), ljw c (l ++ [x]) = ljw c l ++ (if l.length = 0 then c else 44) :: jtx x
  | [], c, x => by simp [ljw]
  | y :: r, c, x => by
    rw [List.cons_append, ljw, ljw_snoc r 44 x, ljw]
    cases r <;> simp
theorem mjw_snoc : ∀ (l : List (ByteArray × JV)) (c : UInt8) (x : ByteArray × JV), mjw c (l ++ [x]) = mjw c l ++ (if l.length = 0 then c else 44) :: (quoteL x.1.data.toList ++ 58 :: jtx x.2)
  | [], c, x => by simp [mjw]
  | y :: r, c, x => by
    rw [List.cons_append, mjw, mjw_snoc r 44 x, mjw]
    cases r <;> simp
theorem ltake_succ {α : Type} {l : List α} {i : Nat} {x : α} (h : l[i]? = some x) : l.take (i + 1) = l.take i ++ [x] := by rw [List.take_add_one, h]; rfl
theorem ljw_take {l : List JV} {i : Nat} {x : JV} (c : UInt8) (h : l[i]? = some x) : ljw c (l.take (i + 1)) = ljw c (l.take i) ++ (if i = 0 then c else 44) :: jtx x := by
  have hi := (List.getElem?_eq_some_iff.1 h).1
  rw [ltake_succ h, ljw_snoc, List.length_take, Nat.min_eq_left (by omega)]
theorem mjw_take {l : List (ByteArray × JV)} {i : Nat} {x : ByteArray × JV} (c : UInt8) (h : l[i]? = some x) : mjw c (l.take (i + 1)) = mjw c (l.take i) ++ (if i = 0 then c else 44) :: (quoteL x.1.data.toList ++ 58 :: jtx x.2) := by
  have hi := (List.getElem?_eq_some_iff.1 h).1
  rw [ltake_succ h, mjw_snoc, List.length_take, Nat.min_eq_left (by omega)]
theorem ljw_head (c : UInt8) (l : List JV) : ljw c l = if l.length = 0 then [] else c :: (ljw 44 l).tail := by cases l <;> simp [ljw]
theorem mjw_head (c : UInt8) (l : List (ByteArray × JV)) : mjw c l = if l.length = 0 then [] else c :: (mjw 44 l).tail := by
  cases l with
  | nil => simp [mjw]
  | cons x r => obtain ⟨k, y⟩ := x; simp [mjw]
theorem jshow_len (n : JNum) (h : n.digits.size ≤ 1000000) (h0 : -1000000 ≤ n.exp) (h1 : n.exp ≤ 1000000) : (jshow n).size ≤ 1000025 := by
  have := itoa_size (n := n.exp) (by omega) (by omega)
  have e1 : (⟨#[45]⟩ : ByteArray).size = 1 := rfl
  have e2 : (⟨#[101]⟩ : ByteArray).size = 1 := rfl
  have e3 : (⟨#[48]⟩ : ByteArray).size = 1 := rfl
  unfold jshow
  repeat' split
  all_goals (try simp only [ByteArray.size_append, e1, e2, e3])
  all_goals omega
/-- Kinds, strings, and numbers are such as the walk bears. -/
def jnb (n : JNum) : Prop := -1000000 ≤ n.exp ∧ n.exp ≤ 1000000
mutual
def jkb : JV → Prop
  | .mk k _ n _ l m => 0 ≤ k ∧ k ≤ 5 ∧ jnb n ∧ lkb l ∧ mkb m
def lkb : List JV → Prop
  | [] => True
  | v :: r => jkb v ∧ lkb r
def mkb : List (ByteArray × JV) → Prop
  | [] => True
  | (_, v) :: r => jkb v ∧ mkb r
end
theorem jkb_eq (v : JV) : jkb v ↔ 0 ≤ v.kind ∧ v.kind ≤ 5 ∧ jnb v.n ∧ lkb v.l ∧ mkb v.m := by cases v; simp [jkb, JV.kind, JV.n, JV.l, JV.m]
theorem lkb_get {l : List JV} {i : Nat} {x : JV} (h : lkb l) (hx : l[i]? = some x) : jkb x := by
  induction l generalizing i with
  | nil => simp at hx
  | cons a r ih =>
    cases i with
    | zero => simp at hx; subst hx; exact h.1
    | succ i => exact ih h.2 (by simpa using hx)
theorem mkb_get {l : List (ByteArray × JV)} {i : Nat} {x : ByteArray × JV} (h : mkb l) (hx : l[i]? = some x) : jkb x.2 := by
  induction l generalizing i with
  | nil => simp at hx
  | cons a r ih =>
    cases i with
    | zero => simp at hx; subst hx; exact h.1
    | succ i => exact ih h.2 (by simpa using hx)
theorem lkb_of : ∀ {l : List JV}, (∀ (i : Nat) x, l[i]? = some x → jkb x) → lkb l
  | [], _ => trivial
  | a :: r, h => ⟨h 0 a rfl, lkb_of fun i x hx => h (i + 1) x (by simpa using hx)⟩
theorem mkb_of : ∀ {l : List (ByteArray × JV)}, (∀ (i : Nat) x, l[i]? = some x → jkb x.2) → mkb l
  | [], _ => trivial
  | a :: r, h => ⟨h 0 a rfl, mkb_of fun i x hx => h (i + 1) x (by simpa using hx)⟩
theorem may_nb {n : JNum} (h : NumMay n) : jnb n := by
  rcases h with ⟨_, _, h⟩ | ⟨_, _, _, _, _, h1, h2⟩
  · unfold jnb; omega
  · unfold jnb; omega
theorem may_kb : ∀ (n : Nat) (v : JV), jsize v ≤ n → jmay v → jkb v := by
  intro n
  induction n with
  | zero => intro v h; have := jsize_pos v; omega
  | succ n ih =>
    intro v hn hm
    have hs := jsize_eq v
    have hl := lsize_nn v.l
    have hmm := msize_nn v.m
    obtain ⟨⟨h1, h2, h3, h4, h5⟩, h6, h7⟩ := (jmay_eq v).1 hm
    refine (jkb_eq v).2 ⟨h1, h2, may_nb h4, lkb_of fun i x hx => ih x ?_ (h7 i x hx), mkb_of fun i x hx => ih x.2 ?_ (h6 i x (List.getElem?_eq_some_iff.1 hx).1 hx).2⟩
    · have := lsize_mem hx; omega
    · have := msize_mem hx; omega
mutual
theorem jtx_len : ∀ v : JV, jb v → jkb v → ((jtx v).length : Int) + 7000010 ≤ 20000000 * jsize v
  | .mk k b n s l m => fun hb hk => by
    obtain ⟨b1, b2, b3, b4, b5, b6⟩ := hb
    obtain ⟨k1, k2, k3, k4, k5⟩ := hk
    have h1 := ljw_len l 91 b5 k4
    have h2 := mjw_len m 123 b6 k5
    have h3 := lsize_nn l
    have h4 := msize_nn m
    have h5 := jshow_len n b1 k3.1 k3.2
    have h6 := qbody_len s.data.toList
    have h7 : s.data.toList.length = s.size := Array.length_toList ..
    have h8 : (quoteL s.data.toList).length = (qbody s.data.toList).length + 2 := by unfold quoteL; simp
    have h9 : (jshow n).data.toList.length = (jshow n).size := Array.length_toList ..
    simp only [jtx, jsize, trueL, falseL, nullL]
    repeat' split
    all_goals (try simp only [List.length_append, List.length_cons, List.length_nil])
    all_goals omega
theorem ljw_len : ∀ (l : List JV) (c : UInt8), lb l → lkb l → ((ljw c l).length : Int) ≤ 20000000 * lsize l
  | [], c => fun _ _ => by simp [ljw, lsize]
  | x :: r, c => fun hb hk => by
    have h1 := jtx_len x hb.1 hk.1
    have h2 := ljw_len r 44 hb.2 hk.2
    simp only [ljw, lsize, List.length_append, List.length_cons]
    omega
theorem mjw_len : ∀ (l : List (ByteArray × JV)) (c : UInt8), mb l → mkb l → ((mjw c l).length : Int) ≤ 20000000 * msize l
  | [], c => fun _ _ => by simp [mjw, msize]
  | (k, x) :: r, c => fun hb hk => by
    have h1 := jtx_len x hb.2.1 hk.1
    have h2 := mjw_len r 44 hb.2.2 hk.2
    have h6 := qbody_len k.data.toList
    have h7 : k.data.toList.length = k.size := Array.length_toList ..
    have h8 : (quoteL k.data.toList).length = (qbody k.data.toList).length + 2 := by unfold quoteL; simp
    have h9 := hb.1
    simp only [mjw, msize, List.length_append, List.length_cons]
    omega
end
end Lg
namespace Lg
open Go Go.RowKit
variable [GLay] {P : Program} {τ ρ : List AO} {E : TypeId} {a a' : AV} {l l' : List UInt8}
/-! ### A Builder of the caller's, more objects behind it -/
theorem bldr_app : bldr τ a E l ++ ρ = τ ++ (.box [a, .bts (τ.length + 1) l.length] :: .bytes E l :: ρ) := by unfold bldr; rw [List.append_assoc]; rfl
theorem bldr_len : (bldr τ a E l).length = τ.length + 2 := by simp [bldr]
theorem sufB {f : FuncId} {args : List AV} {v : AV} (h : ACalls P f args (bldr τ a E l) (Ret v (bldr τ a' E l'))) (hτ : closed τ.length τ) (ha : a.lt (τ.length + 2)) (hargs : AV.ltL (τ.length + 2) args) :
    ACalls P f args (τ ++ (.box [a, .bts (τ.length + 1) l.length] :: .bytes E l :: ρ)) (Ret v (τ ++ (.box [a', .bts (τ.length + 1) l'.length] :: .bytes E l' :: ρ))) := by
  rw [← bldr_app, ← bldr_app]
  exact ACalls_suf h (by rw [bldr_len]; exact closed_bldr hτ ha) (by rw [bldr_len]; exact hargs) (by rw [bldr_len, bldr_len])
theorem ResQ_B {R : Out → List AO → Prop} {el : List (Nat × AV)} (hτ : closed τ.length τ) (ha : a'.lt (τ.length + 2)) (hR : R (.ret (.tup [])) (bldr τ a' E l')) :
    ResQ (bldr τ a E l).length [] R .normal ⟨[], el⟩ (τ ++ (.box [a', .bts (τ.length + 1) l'.length] :: .bytes E l' :: ρ)) := by
  refine ⟨rfl, τ.length + 2, by rw [bldr_len]; exact Nat.le_refl _, ?_, trivial, ?_⟩
  · exact closed_own 2 hτ (by simp [ownLt, AO.cells, AV.ltL, AV.lt, ha])
  · rw [take_own]; exact hR
end Lg
namespace Lg
open Go
theorem lb_take : ∀ (l : List JV) (i : Nat), lb l → lb (l.take i)
  | [], i, _ => by simp [lb]
  | a :: r, 0, _ => by simp [lb]
  | a :: r, i + 1, h => ⟨h.1, lb_take r i h.2⟩
theorem lkb_take : ∀ (l : List JV) (i : Nat), lkb l → lkb (l.take i)
  | [], i, _ => by simp [lkb]
  | a :: r, 0, _ => by simp [lkb]
  | a :: r, i + 1, h => ⟨h.1, lkb_take r i h.2⟩
theorem mb_take : ∀ (l : List (ByteArray × JV)) (i : Nat), mb l → mb (l.take i)
  | [], i, _ => by simp [mb]
  | a :: r, 0, _ => by simp [mb]
  | (k, x) :: r, i + 1, h => ⟨h.1, h.2.1, mb_take r i h.2.2⟩
theorem mkb_take : ∀ (l : List (ByteArray × JV)) (i : Nat), mkb l → mkb (l.take i)
  | [], i, _ => by simp [mkb]
  | a :: r, 0, _ => by simp [mkb]
  | (k, x) :: r, i + 1, h => ⟨h.1, mkb_take r i h.2⟩
def sgn (c : UInt8) : Nat → UInt8
  | 0 => c
  | _ + 1 => 44
theorem sgn_eq (c : UInt8) (i : Nat) : sgn c i = if i = 0 then c else 44 := by cases i <;> simp [sgn]
theorem ljw_step {l : List JV} {i : Nat} {x : JV} (c : UInt8) (h : l[i]? = some x) (p : BL) : p ++ ljw c (l.take i) ++ [sgn c i] ++ jtx x = p ++ ljw c (l.take (i + 1)) := by
  rw [ljw_take c h, sgn_eq]; simp
theorem mjw_step {l : List (ByteArray × JV)} {i : Nat} {x : ByteArray × JV} (c : UInt8) (h : l[i]? = some x) (p : BL) : p ++ mjw c (l.take i) ++ (sgn c i :: (quoteL x.1.data.toList ++ [58])) ++ jtx x.2 = p ++ mjw c (l.take (i + 1)) := by
  rw [mjw_take c h, sgn_eq]; simp
theorem ljw_le {l : List JV} (c : UInt8) (h1 : lb l) (h2 : lkb l) (i : Nat) : ((ljw c (l.take i)).length : Int) ≤ 20000000 * lsize (l.take i) ∧ lsize (l.take i) ≤ lsize l := ⟨ljw_len _ c (lb_take l i h1) (lkb_take l i h2), lsize_take_le l i⟩
theorem mjw_le {l : List (ByteArray × JV)} (c : UInt8) (h1 : mb l) (h2 : mkb l) (i : Nat) : ((mjw c (l.take i)).length : Int) ≤ 20000000 * msize (l.take i) ∧ msize (l.take i) ≤ msize l := ⟨mjw_len _ c (mb_take l i h1) (mkb_take l i h2), msize_take_le l i⟩
theorem tail_txt (x y : UInt8) (n : Nat) : ((⟨#[x, y]⟩ : ByteArray).extract (min (n : Int) 1).toNat ((2 : Nat) : Int).toNat).data.toList = if n = 0 then [x, y] else [y] := by
  by_cases h : n = 0
  · subst h; rw [if_pos rfl]; rfl
  · rw [if_neg h, show (min (n : Int) 1).toNat = 1 by omega]; rfl
theorem quote_size {s : ByteArray} (h : s.size ≤ 1000000) : (quoteL s.data.toList).length ≤ 6000002 := by
  have h6 := qbody_len s.data.toList
  have h7 : s.data.toList.length = s.size := Array.length_toList ..
  unfold quoteL; simp; omega
end Lg
namespace Lg
open Go Go.Lib
/-! ### UTF-8, put together -/
def u8L (l : List UInt8) : Nat := u8N l.length (l.getD 0 0).toNat (l.getD 1 0).toNat (l.getD 2 0).toNat (l.getD 3 0).toNat
theorem validD_u8 (l : List UInt8) (hne : l ≠ []) : validD l = if u8L l = 0 then false else validD (l.drop (u8L l)) := by
  rw [validD_step _ hne]
  have hw := decodeL_width l
  rw [decodeL_N] at hw ⊢
  unfold u8L u8N
  by_cases hc : (decodeN l.length (l.getD 0 0).toNat (l.getD 1 0).toNat (l.getD 2 0).toNat (l.getD 3 0).toNat).1 = 65533 ∧ (decodeN l.length (l.getD 0 0).toNat (l.getD 1 0).toNat (l.getD 2 0).toNat (l.getD 3 0).toNat).2 = 1
  · rw [if_pos hc, if_pos hc, if_pos rfl]
  · rw [if_neg hc, if_neg hc, if_neg (by omega)]
theorem u8N_pre {n b0 b1 b2 b3 n' c0 c1 c2 c3 w : Nat} (hb0 : b0 < 256) (h : u8N n b0 b1 b2 b3 = w) (hw : w ≠ 0) (hl : w ≤ n') (h0 : c0 = b0) (h1 : 1 < w → c1 = b1) (h2 : 2 < w → c2 = b2) (h3 : 3 < w → c3 = b3) (hn : 1 ≤ n) :
    u8N n' c0 c1 c2 c3 = w ∧ w ≤ n := by
  subst h0
  by_cases k0 : c0 < 128
  · rw [u8N_1 k0] at h; subst h; exact ⟨u8N_1 k0, hn⟩
  by_cases k1 : c0 < 192 ∨ 248 ≤ c0
  · rw [u8N_0 (by omega) hb0] at h; exact absurd h.symm hw
  by_cases k2 : c0 < 224
  · rw [u8N_2 (by omega) k2] at h
    split at h
    · subst h
      have := h1 (by omega); subst this
      rw [u8N_2 (by omega) k2, if_pos (by omega)]; omega
    · exact absurd h.symm hw
  by_cases k3 : c0 < 240
  · rw [u8N_3 (by omega) k3 rfl] at h
    split at h
    · subst h
      have := h1 (by omega); subst this
      have := h2 (by omega); subst this
      rw [u8N_3 (by omega) k3 rfl, if_pos (by omega)]; omega
    · exact absurd h.symm hw
  · rw [u8N_4 (by omega) (by omega) rfl] at h
    split at h
    · subst h
      have := h1 (by omega); subst this
      have := h2 (by omega); subst this
      have := h3 (by omega); subst this
      rw [u8N_4 (by omega) (by omega) rfl, if_pos (by omega)]; omega
    · exact absurd h.symm hw
theorem u8L_pre {L L' : List UInt8} (hne : L ≠ []) (hw : u8L L ≠ 0) (hl : u8L L ≤ L'.length) (hp : ∀ k, k < u8L L → L'.getD k 0 = L.getD k 0) : u8L L' = u8L L ∧ u8L L ≤ L.length := by
  have hn : 1 ≤ L.length := by cases L with
    | nil => exact absurd rfl hne
    | cons => simp
  exact u8N_pre (L.getD 0 0).toNat_lt (rfl : u8L L = u8L L) hw hl (by rw [hp 0 (by omega)]) (fun h => by rw [hp 1 h]) (fun h => by rw [hp 2 h]) (fun h => by rw [hp 3 h]) hn
theorem validD_app (m : List UInt8) (hm : validD m = true) : ∀ (n : Nat) (l : List UInt8), l.length ≤ n → validD l = true → validD (l ++ m) = true := by
  intro n
  induction n with
  | zero => intro l hl _; have : l = [] := List.eq_nil_of_length_eq_zero (by omega); subst this; exact hm
  | succ n ih =>
    intro l hl h
    by_cases hne : l = []
    · subst hne; exact hm
    rw [validD_u8 l hne] at h
    split at h
    · cases h
    · rename_i hw
      have hle := (u8L_pre hne hw (L' := l ++ List.replicate (u8L l) 0) (by simp) (fun k hk => by
        by_cases hkl : k < l.length
        · simp [List.getD_eq_getElem?_getD, List.getElem?_append_left hkl]
        · simp only [List.getD_eq_getElem?_getD]
          rw [List.getElem?_append_right (by omega), List.getElem?_eq_none (l := l) (by omega)]
          rw [List.getElem?_replicate]; split <;> rfl)).2
      have he := (u8L_pre hne hw (L' := l ++ m) (by simp; omega) (fun k hk => by
        simp [List.getD_eq_getElem?_getD, List.getElem?_append_left (show k < l.length by omega)])).1
      rw [validD_u8 (l ++ m) (by simp [hne]), he, if_neg hw, List.drop_append_of_le_length hle]
      exact ih _ (by rw [List.length_drop]; omega) h
theorem Utf.app {a b : ByteArray} (ha : Utf a) (hb : Utf b) : Utf (a ++ b) := by
  unfold Utf at *
  have : (a ++ b).data.toList = a.data.toList ++ b.data.toList := by simp
  rw [this]
  exact validD_app _ hb _ _ (Nat.le_refl _) ha
theorem u8L_bat (s : ByteArray) (i : Nat) : u8L (s.data.toList.drop i) = u8 s i := by
  have hg : ∀ k, (s.data.toList.drop i).getD k 0 = bat s (i + k) := fun k => by simp [bat, List.getD, List.getElem?_drop]
  unfold u8L u8
  rw [hg, hg, hg, hg, List.length_drop, Array.length_toList]; rfl
theorem Utf.ext {s : ByteArray} {i : Nat} (h : i < s.size) (hu : ¬ u8 s i = 0) : Utf (s.extract i (i + u8 s i)) := by
  have hne : s.data.toList.drop i ≠ [] := by
    intro e
    have := congrArg List.length e
    rw [List.length_drop, Array.length_toList] at this
    have h' : i < s.data.size := h
    simp at this; omega
  have hle := u8_le h
  have hsz : s.data.size = s.size := rfl
  have hlist : (s.extract i (i + u8 s i)).data.toList = (s.data.toList.drop i).take (u8 s i) := by
    simp [ByteArray.data_extract, List.extract_eq_take_drop]
  have hlen : ((s.data.toList.drop i).take (u8 s i)).length = u8 s i := by simp; omega
  unfold Utf
  rw [hlist]
  have he := (u8L_pre hne (by rw [u8L_bat]; exact hu) (L' := (s.data.toList.drop i).take (u8 s i)) (by rw [hlen, u8L_bat]; exact Nat.le_refl _) (fun k hk => by
    rw [u8L_bat] at hk
    simp only [List.getD_eq_getElem?_getD, List.getElem?_take, hk, if_true])).1
  rw [u8L_bat] at he
  rw [validD_u8 _ (fun e => by rw [e] at hlen; simp at hlen; omega), he, if_neg hu, List.drop_eq_nil_of_le (by omega)]
  rfl
theorem u8b_nat {n : Int} (h0 : 0 ≤ n) (h1 : n < 256) : (u8b n).toNat = n.toNat := by
  have := u8b_toNat h0 h1; omega
theorem Utf.char {v : Int} (h0 : 0 ≤ v) (h1 : v < 1114112) (h2 : ¬ (55296 ≤ v ∧ v < 57344)) : Utf (rchar v) := by
  unfold Utf rchar
  split
  · show validD [u8b v] = true
    rw [validD_cons _ _ (by rw [u8b_nat h0 (by omega)]; omega)]; rfl
  split
  · show validD [u8b (192 + v / 64), u8b (128 + v % 64)] = true
    have e : u8L [u8b (192 + v / 64), u8b (128 + v % 64)] = 2 := by
      show u8N 2 (u8b (192 + v / 64)).toNat (u8b (128 + v % 64)).toNat 0 0 = 2
      rw [u8b_nat (by omega) (by omega), u8b_nat (by omega) (by omega), u8N_2 (by omega) (by omega), if_pos (by omega)]
    rw [validD_u8 _ (by simp), e]; rfl
  split
  · show validD [u8b (224 + v / 4096), u8b (128 + v / 64 % 64), u8b (128 + v % 64)] = true
    have e : u8L [u8b (224 + v / 4096), u8b (128 + v / 64 % 64), u8b (128 + v % 64)] = 3 := by
      show u8N 3 (u8b (224 + v / 4096)).toNat (u8b (128 + v / 64 % 64)).toNat (u8b (128 + v % 64)).toNat 0 = 3
      rw [u8b_nat (by omega) (by omega), u8b_nat (by omega) (by omega), u8b_nat (by omega) (by omega), u8N_3 (by omega) (by omega) rfl, if_pos (by omega)]
    rw [validD_u8 _ (by simp), e]; rfl
  · show validD [u8b (240 + v / 262144), u8b (128 + v / 4096 % 64), u8b (128 + v / 64 % 64), u8b (128 + v % 64)] = true
    have e : u8L [u8b (240 + v / 262144), u8b (128 + v / 4096 % 64), u8b (128 + v / 64 % 64), u8b (128 + v % 64)] = 4 := by
      show u8N 4 (u8b (240 + v / 262144)).toNat (u8b (128 + v / 4096 % 64)).toNat (u8b (128 + v / 64 % 64)).toNat (u8b (128 + v % 64)).toNat = 4
      rw [u8b_nat (by omega) (by omega), u8b_nat (by omega) (by omega), u8b_nat (by omega) (by omega), u8b_nat (by omega) (by omega), u8N_4 (by omega) (by omega) rfl, if_pos (by omega)]
    rw [validD_u8 _ (by simp), e]; rfl
theorem esc_ok {c b : Nat} (h : esc c = some b) : b < 128 := by
  unfold esc at h
  rw [Option.map_eq_some_iff] at h
  obtain ⟨q, hq, rfl⟩ := h
  have := List.mem_of_find?_eq_some hq
  revert this
  have : ∀ q ∈ escL, q.2 < 128 := by decide
  exact this q
theorem Utf.asc {b : Nat} (h : b < 128) : Utf ⟨#[UInt8.ofNat b]⟩ := by
  unfold Utf
  show validD [UInt8.ofNat b] = true
  rw [validD_cons _ _ (by rw [UInt8.toNat_ofNat']; omega)]; rfl
/-- What a text in quotes comes to. -/
def UOK (s : ByteArray) (a : Nat) (u : UR) : Prop := (u.bad = 0 ∧ 0 ≤ u.n ∧ (a : Int) + u.n ≤ s.size ∧ Utf u.s ∧ (u.s.size : Int) ≤ u.n) ∨ ((u.bad = 1 ∨ u.bad = 2) ∧ u.n = 0 ∧ u.s = e0)
theorem unqF_ok (s : ByteArray) (a : Nat) : ∀ (k i : Nat) (out : ByteArray), s.size - i ≤ k → a < i → Utf out → out.size ≤ i - a → UOK s a (unqF s a i out) := by
  intro k
  induction k with
  | zero => intro i out hk hi hu ho; rw [unqF_end (by omega)]; exact .inr ⟨.inl rfl, rfl, rfl⟩
  | succ k ih =>
    intro i out hk hi hu ho
    by_cases h : s.size ≤ i
    · rw [unqF_end h]; exact .inr ⟨.inl rfl, rfl, rfl⟩
    by_cases h1 : (bat s i).toNat = 34
    · rw [unqF_q (by omega) h1]; exact .inl ⟨rfl, by dsimp only; omega, by dsimp only; omega, hu, by dsimp only; omega⟩
    by_cases h2 : (bat s i).toNat < 32
    · rw [unqF_ctl (by omega) h2]; exact .inr ⟨.inl rfl, rfl, rfl⟩
    by_cases h3 : (bat s i).toNat = 92
    · by_cases h4 : i + 1 = s.size
      · rw [unqF_last h4 h3]; exact .inr ⟨.inl rfl, rfl, rfl⟩
      by_cases h5 : (bat s (i + 1)).toNat = 117
      · by_cases h6 : 0 ≤ (rhex s (i + 2)).2
        · rw [unqF_hb (by omega) h3 h5 h6]; exact .inr ⟨.inl rfl, rfl, rfl⟩
        have hx := rhex_ok s (i + 2)
        have hl := rlow_ok s (i + 6)
        by_cases h7 : 55296 ≤ (rhex s (i + 2)).1 ∧ (rhex s (i + 2)).1 < 56320 ∧ 0 ≤ rlow s (i + 6)
        · rw [unqF_pair (by omega) h3 h5 (by omega) h7]
          have hs := rchar_size (65536 + 1024 * ((rhex s (i + 2)).1 - 55296) + rlow s (i + 6) - 56320)
          exact ih _ _ (by omega) (by omega) (hu.app (Utf.char (by omega) (by omega) (by omega))) (by rw [ByteArray.size_append]; omega)
        by_cases h8 : 55296 ≤ (rhex s (i + 2)).1 ∧ (rhex s (i + 2)).1 < 57344
        · rw [unqF_sur (by omega) h3 h5 (by omega) h7 h8]; exact .inr ⟨.inr rfl, rfl, rfl⟩
        · rw [unqF_u (by omega) h3 h5 (by omega) h7 h8]
          have hs := rchar_size (rhex s (i + 2)).1
          exact ih _ _ (by omega) (by omega) (hu.app (Utf.char (by omega) (by omega) h8)) (by rw [ByteArray.size_append]; omega)
      · cases h6 : esc (bat s (i + 1)).toNat with
        | none => rw [unqF_eb (by omega) h3 h5 h6]; exact .inr ⟨.inl rfl, rfl, rfl⟩
        | some b =>
          rw [unqF_e (by omega) h3 h5 h6]
          have h1b : (ByteArray.mk #[UInt8.ofNat b]).size = 1 := rfl
          exact ih _ _ (by omega) (by omega) (hu.app (Utf.asc (esc_ok h6))) (by rw [ByteArray.size_append]; omega)
    · by_cases h4 : u8 s i = 0
      · rw [unqF_bad (by omega) h1 (by omega) h3 h4]; exact .inr ⟨.inr rfl, rfl, rfl⟩
      · rw [unqF_plain (by omega) h1 (by omega) h3 h4]
        exact ih _ _ (by omega) (by omega) (hu.app (Utf.ext (by omega) h4)) (by rw [ByteArray.size_append, ByteArray.size_extract]; omega)
theorem rUnq_ok (s : ByteArray) (a : Nat) : UOK s a (rUnq s (a : Int)) := by
  unfold rUnq
  split
  · exact .inr ⟨.inl rfl, rfl, rfl⟩
  split
  · exact .inr ⟨.inl rfl, rfl, rfl⟩
  · rw [Int.toNat_natCast]
    exact unqF_ok s a _ _ _ (Nat.le_refl _) (by omega) rfl (Nat.zero_le _)
end Lg
namespace Lg
open Go
/-! ### The reader, plainly -/
structure RS where
  a : Nat
  deep : Int
  bad : Int
  spot : Int
abbrev rbox (s : ByteArray) (r : RS) : AO := .box [.str s, .int .i64 (r.a : Int), .int .i64 r.deep, .int .i64 r.bad, .int .i64 r.spot]
def rfail (r : RS) (a b : Int) : RS := ⟨r.a, r.deep, if r.bad = 0 then b else r.bad, if r.bad = 0 then a else r.spot⟩
def rblank (s : ByteArray) (r : RS) : RS := ⟨if r.bad = 0 then blk s r.a else r.a, r.deep, r.bad, r.spot⟩
def ropen (s : ByteArray) (r : RS) : RS :=
  ⟨if (if r.deep = 32 then (if r.bad = 0 then 3 else r.bad) else r.bad) = 0 then blk s (r.a + 1) else r.a + 1, r.deep + 1, if r.deep = 32 then (if r.bad = 0 then 3 else r.bad) else r.bad, if r.deep = 32 then (if r.bad = 0 then (r.a : Int) else r.spot) else r.spot⟩
def rinc (r : RS) : RS := ⟨r.a + 1, r.deep, r.bad, r.spot⟩
def wstep (s : ByteArray) (c : UInt8) (r : RS) : RS := if pkv s r.a r.bad = c.toNat then rinc r else rinc (rfail r r.a 1)
def wantF (s lit : ByteArray) (i : Nat) (r : RS) : RS := if i < lit.size ∧ r.bad = 0 then wantF s lit (i + 1) (wstep s (bat lit i) r) else r
termination_by lit.size - i
def rwant (s lit : ByteArray) (r : RS) : RS := wantF s lit 0 r
def rtext (s : ByteArray) (r : RS) : ByteArray × RS :=
  if r.bad = 0 then ((rUnq s r.a).s, ⟨r.a + (rUnq s r.a).n.toNat, r.deep, (rUnq s r.a).bad, if (rUnq s r.a).bad = 0 then r.spot else (rUnq s r.a).at_⟩) else (e0, r)
def rdec (r : RS) : RS := ⟨r.a, r.deep - 1, r.bad, r.spot⟩
section
variable (rv : RS → JV × RS) (s : ByteArray)
def rarrF : Nat → List JV → RS → List JV × RS
  | 0, l, r => (l, r)
  | k + 1, l, r => if r.bad = 0 ∧ (¬ pkv s r.a r.bad = 93 ∨ 0 < l.length) then
      (if pkv s (rv r).2.a (rv r).2.bad = 44 then rarrF k (l ++ [(rv r).1]) (rinc (rv r).2) else (l ++ [(rv r).1], (rv r).2))
    else (l, r)
def rb1 : ByteArray := ⟨#[93]⟩
def rb2 : ByteArray := ⟨#[125]⟩
def rb3 : ByteArray := ⟨#[58]⟩
def rarr (r : RS) : JV × RS := (.mk 4 false {} e0 (rarrF rv s (s.size + 2) [] (ropen s r)).1 [], rdec (rwant s rb1 (rarrF rv s (s.size + 2) [] (ropen s r)).2))
def rinsK (m : List (ByteArray × JV)) (key : ByteArray) : Nat := (m.takeWhile fun q => blt q.1 key).length
def rins (m : List (ByteArray × JV)) (key : ByteArray) (x : JV) : List (ByteArray × JV) := m.take (rinsK m key) ++ (key, x) :: m.drop (rinsK m key)
def mkO (m : List (ByteArray × JV)) : JV := .mk 5 false {} e0 [] m
/-- Behind a member's key: a key that was there is amiss. -/
def rk2 (m : List (ByteArray × JV)) (r : RS) : RS := if (jfind (mkO m) (rtext s (rblank s r)).1).isSome = true then rfail (rtext s (rblank s r)).2 (rblank s r).a 4 else (rtext s (rblank s r)).2
/-- A member's key, and what stands behind it: up to its value. -/
def rkey (m : List (ByteArray × JV)) (r : RS) : ByteArray × RS := ((rtext s (rblank s r)).1, rwant s rb3 (rblank s (rk2 s m r)))
def robjF : Nat → List (ByteArray × JV) → RS → List (ByteArray × JV) × RS
  | 0, m, r => (m, r)
  | k + 1, m, r => if r.bad = 0 ∧ (¬ pkv s r.a r.bad = 125 ∨ 0 < m.length) then
      (if pkv s (rv (rkey s m r).2).2.a (rv (rkey s m r).2).2.bad = 44 then robjF k (rins m (rkey s m r).1 (rv (rkey s m r).2).1) (rinc (rv (rkey s m r).2).2) else (rins m (rkey s m r).1 (rv (rkey s m r).2).1, (rv (rkey s m r).2).2))
    else (m, r)
def robj (r : RS) : JV × RS := (mkO (robjF rv s (s.size + 2) [] (ropen s r)).1, rdec (rwant s rb2 (robjF rv s (s.size + 2) [] (ropen s r)).2))
end
def lNull : ByteArray := ⟨#[110, 117, 108, 108]⟩
def lTrue : ByteArray := ⟨#[116, 114, 117, 101]⟩
def lFalse : ByteArray := ⟨#[102, 97, 108, 115, 101]⟩
noncomputable def rnumv (s : ByteArray) (r : RS) : JV × RS :=
  (.mk 2 false (rNum (s.extract r.a (rEnd s r.a).1)).1 e0 [] [],
   ⟨(rEnd s r.a).1, r.deep, (if (rNum (s.extract r.a (rEnd s r.a).1)).2 = 0 then (if (rEnd s r.a).2 = true then r else rfail r (rEnd s r.a).1 1) else rfail (if (rEnd s r.a).2 = true then r else rfail r (rEnd s r.a).1 1) r.a 5).bad,
    (if (rNum (s.extract r.a (rEnd s r.a).1)).2 = 0 then (if (rEnd s r.a).2 = true then r else rfail r (rEnd s r.a).1 1) else rfail (if (rEnd s r.a).2 = true then r else rfail r (rEnd s r.a).1 1) r.a 5).spot⟩)
/-- What a byte begins. -/
noncomputable def rone (rv : RS → JV × RS) (s : ByteArray) (r : RS) : JV × RS :=
  if pkv s r.a r.bad = 123 then robj rv s r else
  if pkv s r.a r.bad = 91 then rarr rv s r else
  if pkv s r.a r.bad = 34 then (.mk 3 false {} (rtext s r).1 [] [], (rtext s r).2) else
  if pkv s r.a r.bad = 110 then (vz, rwant s lNull r) else
  if pkv s r.a r.bad = 116 then (.mk 1 true {} e0 [] [], rwant s lTrue r) else
  if pkv s r.a r.bad = 102 then (.mk 1 false {} e0 [] [], rwant s lFalse r) else
  if pkv s r.a r.bad = 45 ∨ (48 ≤ pkv s r.a r.bad ∧ pkv s r.a r.bad ≤ 57) then rnumv s r else (vz, rfail r r.a 1)
noncomputable def rval : Nat → ByteArray → RS → JV × RS
  | 0, s, r => (vz, r)
  | n + 1, s, r => ((rone (rval n s) s (rblank s r)).1, rblank s (rone (rval n s) s (rblank s r)).2)
noncomputable def rpar (s : ByteArray) : JV × RS := rval (s.size + 2) s ⟨0, 0, 0, 0⟩
noncomputable def rparE (s : ByteArray) : RS := if (rpar s).2.bad = 0 ∧ (rpar s).2.a < s.size then rfail (rpar s).2 (rpar s).2.a 1 else (rpar s).2
noncomputable def rParse (s : ByteArray) : JV × Int × Int :=
  if 20000 < s.size then (vz, 5, 20000) else if (rparE s).bad = 0 then ((rpar s).1, 0, 0) else (vz, (rparE s).bad, (rparE s).spot)

/-! ### How far the reader comes -/
structure ROK (s : ByteArray) (r : RS) : Prop where
  a : r.a ≤ s.size + 1
  b : r.bad = 0 → r.a ≤ s.size
  d0 : 0 ≤ r.deep
  d1 : r.deep ≤ r.a
/-- From r on to r'. -/
structure RTo (s : ByteArray) (r r' : RS) : Prop where
  a : r.a ≤ r'.a
  ok : ROK s r'
  b : r'.bad = 0 → r.bad = 0
theorem RTo.refl {s : ByteArray} {r : RS} (h : ROK s r) : RTo s r r := ⟨Nat.le_refl _, h, id⟩
theorem RTo.trans {s : ByteArray} {r r' r'' : RS} (h : RTo s r r') (k : RTo s r' r'') : RTo s r r'' := ⟨Nat.le_trans h.a k.a, k.ok, fun e => h.b (k.b e)⟩
theorem rfail_bad {r : RS} {a b : Int} (hb : b ≠ 0) : (rfail r a b).bad ≠ 0 := by
  unfold rfail; dsimp only; split <;> assumption
theorem rfail_to {s : ByteArray} {r : RS} (h : ROK s r) {a b : Int} (hb : b ≠ 0) : RTo s r (rfail r a b) := by
  have hbad := rfail_bad (r := r) (a := a) hb
  exact ⟨Nat.le_refl _, ⟨h.a, fun e => absurd e hbad, h.d0, h.d1⟩, fun e => absurd e hbad⟩
theorem rblank_to {s : ByteArray} {r : RS} (h : ROK s r) : RTo s r (rblank s r) := by
  have h1 := blk_le s r.a
  have h2 := h.a; have h3 := h.d1
  by_cases hb : r.bad = 0
  · have h4 := h.b hb
    refine ⟨?_, ⟨?_, ?_, h.d0, ?_⟩, fun _ => hb⟩ <;> simp only [rblank, if_pos hb] <;> omega
  · refine ⟨?_, ⟨?_, ?_, h.d0, ?_⟩, id⟩ <;> simp only [rblank, if_neg hb] <;> omega
theorem rblank_deep (s : ByteArray) (r : RS) : (rblank s r).deep = r.deep := rfl
theorem ropen_to {s : ByteArray} {r : RS} (h : ROK s r) (hb : r.bad = 0) (ha : r.a < s.size) : RTo s r (ropen s r) ∧ r.a + 1 ≤ (ropen s r).a ∧ (ropen s r).deep = r.deep + 1 := by
  have h1 := blk_le s (r.a + 1)
  have h2 := h.d1; have h3 := h.d0
  by_cases hd : r.deep = 32
  · have e : ropen s r = ⟨r.a + 1, r.deep + 1, 3, r.a⟩ := by simp [ropen, hd, hb]
    rw [e]
    exact ⟨⟨by dsimp only; omega, ⟨by dsimp only; omega, fun e => absurd e (show ¬ (3 : Int) = 0 by decide), by dsimp only; omega, by dsimp only; omega⟩, fun e => absurd e (show ¬ (3 : Int) = 0 by decide)⟩, Nat.le_refl _, rfl⟩
  · have e : ropen s r = ⟨blk s (r.a + 1), r.deep + 1, 0, r.spot⟩ := by simp [ropen, hd, hb]
    rw [e]
    exact ⟨⟨by dsimp only; omega, ⟨by dsimp only; omega, fun _ => by dsimp only; omega, by dsimp only; omega, by dsimp only; omega⟩, fun _ => hb⟩, by dsimp only; omega, rfl⟩
theorem rinc_to {s : ByteArray} {r : RS} (h : ROK s r) (ha : 0 ≤ pkv s r.a r.bad) : RTo s r (rinc r) := by
  have h1 := pk_yes ha
  have h2 := h.d1
  exact ⟨by dsimp only [rinc]; omega, ⟨by dsimp only [rinc]; omega, fun _ => by dsimp only [rinc]; omega, h.d0, by dsimp only [rinc]; omega⟩, id⟩
theorem wstep_to {s : ByteArray} {c : UInt8} {r : RS} (h : ROK s r) (hb : r.bad = 0) : RTo s r (wstep s c r) ∧ (wstep s c r).deep = r.deep := by
  have h2 := h.d1; have h3 := h.b hb
  unfold wstep
  split
  · rename_i hp; exact ⟨rinc_to h (by omega), rfl⟩
  · have hbad := rfail_bad (r := r) (a := (r.a : Int)) (b := 1) (by decide)
    exact ⟨⟨by dsimp only [rinc, rfail]; omega, ⟨by dsimp only [rinc, rfail]; omega, fun e => absurd e hbad, h.d0, by dsimp only [rinc, rfail]; omega⟩, fun _ => hb⟩, rfl⟩
theorem wantF_to {s lit : ByteArray} : ∀ (k i : Nat) (r : RS), lit.size - i ≤ k → ROK s r → RTo s r (wantF s lit i r) ∧ (wantF s lit i r).deep = r.deep := by
  intro k
  induction k with
  | zero => intro i r hk h; rw [wantF, if_neg (by omega)]; exact ⟨.refl h, rfl⟩
  | succ k ih =>
    intro i r hk h
    rw [wantF]
    split
    · rename_i hc
      have h1 := wstep_to (s := s) (c := bat lit i) h hc.2
      have h2 := ih (i + 1) _ (by omega) h1.1.ok
      exact ⟨h1.1.trans h2.1, h2.2.trans h1.2⟩
    · exact ⟨.refl h, rfl⟩
theorem rwant_to {s lit : ByteArray} {r : RS} (h : ROK s r) : RTo s r (rwant s lit r) ∧ (rwant s lit r).deep = r.deep := wantF_to _ 0 r (Nat.le_refl _) h
/-- A bracket that is wanted is gone over. -/
theorem rwant1 {s lit : ByteArray} {r : RS} (h : ROK s r) (h1 : lit.size = 1) (hb : r.bad = 0) : r.a + 1 ≤ (rwant s lit r).a := by
  have e : rwant s lit r = wstep s (bat lit 0) r := by
    unfold rwant
    rw [wantF, if_pos ⟨by omega, hb⟩, wantF, if_neg (by omega)]
  rw [e]; unfold wstep; split <;> exact Nat.le_refl _
theorem rtext_to {s : ByteArray} {r : RS} (h : ROK s r) : RTo s r (rtext s r).2 ∧ (rtext s r).2.deep = r.deep ∧ Utf (rtext s r).1 ∧ r.a + (rtext s r).1.size ≤ (rtext s r).2.a := by
  have h2 := h.d1; have h4 := h.a
  unfold rtext
  split
  · rename_i hb
    have h3 := h.b hb
    rcases rUnq_ok s r.a with ⟨q1, q2, q3, q4, q5⟩ | ⟨q1, q2, q3⟩
    · exact ⟨⟨by dsimp only; omega, ⟨by dsimp only; omega, fun _ => by dsimp only; omega, h.d0, by dsimp only; omega⟩, fun _ => hb⟩, rfl, q4, by dsimp only; omega⟩
    · exact ⟨⟨by dsimp only; omega, ⟨by dsimp only; omega, fun e => by dsimp only at e; omega, h.d0, by dsimp only; omega⟩, fun _ => hb⟩, rfl, by dsimp only; rw [q3]; rfl, by dsimp only; rw [q3]; show r.a + 0 ≤ _; omega⟩
  · exact ⟨.refl h, rfl, rfl, Nat.le_refl _⟩
end Lg
namespace Lg
open Go
variable [GLay]
/-! ### What is read may be -/
theorem bytesLess_trans : ∀ (a b c : List UInt8), Op.bytesLess a b = true → Op.bytesLess b c = true → Op.bytesLess a c = true
  | [], [], _, h, _ => by simp [Op.bytesLess] at h
  | [], _ :: _, [], _, h => by simp [Op.bytesLess] at h
  | [], _ :: _, _ :: _, _, _ => by simp [Op.bytesLess]
  | _ :: _, [], _, h, _ => by simp [Op.bytesLess] at h
  | _ :: _, _ :: _, [], _, h => by simp [Op.bytesLess] at h
  | x :: a, y :: b, z :: c, h, k => by
    simp only [Op.bytesLess] at h k ⊢
    have ih := bytesLess_trans a b c
    have e1 : ∀ u v : UInt8, (u < v) = (u.toNat < v.toNat) := fun u v => by rw [UInt8.lt_iff_toNat_lt]
    have e2 : ∀ u v : UInt8, (u = v) = (u.toNat = v.toNat) := fun u v => by rw [UInt8.toNat_inj]
    simp only [e1, beq_iff_eq, e2, Bool.if_true_left, Bool.or_eq_true, decide_eq_true_eq, Bool.and_eq_true, Bool.if_false_right] at h k ⊢
    rcases h with h | h <;> rcases k with k | k
    · left; omega
    · left; omega
    · left; omega
    · right; exact ⟨by omega, ih h.2 k.2⟩
theorem blt_trans {a b c : ByteArray} (h : blt a b = true) (k : blt b c = true) : blt a c = true := bytesLess_trans _ _ _ h k
theorem vz_may : jmay vz := (jmay_eq vz).2 ⟨⟨by decide, by decide, by decide, zmay, zutf⟩, fun j q hj => absurd hj (by simp [vz, JV.m]), fun i x hx => by simp [vz, JV.l] at hx⟩
theorem may_b (b : Bool) : jmay (.mk 1 b {} e0 [] []) := (jmay_eq _).2 ⟨⟨by simp [JV.kind], by simp [JV.kind], by cases b <;> decide, zmay, zutf⟩, fun j q hj => absurd hj (by simp [JV.m]), fun i x hx => by simp [JV.l] at hx⟩
theorem may_s {t : ByteArray} (h : Utf t) : jmay (.mk 3 false {} t [] []) := (jmay_eq _).2 ⟨⟨by simp [JV.kind], by simp [JV.kind], by simp [jbare, JV.kind, JV.b, JV.n, JV.s, JV.l, JV.m, JNum.z], zmay, h⟩, fun j q hj => absurd hj (by simp [JV.m]), fun i x hx => by simp [JV.l] at hx⟩
theorem may_n {n : JNum} (h : NumMay n) : jmay (.mk 2 false n e0 [] []) := (jmay_eq _).2 ⟨⟨by simp [JV.kind], by simp [JV.kind], by simp [jbare, JV.kind, JV.b, JV.n, JV.s, JV.l, JV.m, e0], h, zutf⟩, fun j q hj => absurd hj (by simp [JV.m]), fun i x hx => by simp [JV.l] at hx⟩
theorem may_l {l : List JV} (h : lmay l) : jmay (.mk 4 false {} e0 l []) := (jmay_eq _).2 ⟨⟨by simp [JV.kind], by simp [JV.kind], by simp [jbare, JV.kind, JV.b, JV.n, JV.s, JV.l, JV.m, JNum.z, e0], zmay, zutf⟩, fun j q hj => absurd hj (by simp [JV.m]), fun i x hx => (lmay_iff l).1 h i x hx⟩
/-- Members that may be: their keys rise. -/
def MOK (m : List (ByteArray × JV)) : Prop := (∀ q ∈ m, Utf q.1 ∧ jmay q.2) ∧ m.Pairwise fun p q => blt p.1 q.1 = true
theorem MOK.mok {m : List (ByteArray × JV)} (h : MOK m) : mok m m.length := fun j q _ hq => by
  have hm := h.1 q (List.mem_of_getElem? hq)
  refine ⟨⟨hm.1, fun q' hj hq' => ?_⟩, hm.2⟩
  obtain ⟨h1, rfl⟩ := List.getElem?_eq_some_iff.1 hq
  obtain ⟨h2, rfl⟩ := List.getElem?_eq_some_iff.1 hq'
  exact List.pairwise_iff_getElem.1 h.2 (j - 1) j h2 h1 (by omega)
theorem may_m {m : List (ByteArray × JV)} (h : MOK m) : jmay (mkO m) := (jmay_eq _).2 ⟨⟨by simp [mkO, JV.kind], by simp [mkO, JV.kind], by simp [mkO, jbare, JV.kind, JV.b, JV.n, JV.s, JV.l, JV.m, JNum.z, e0], zmay, zutf⟩, h.mok, fun i x hx => by simp [mkO, JV.l] at hx⟩
theorem rins_nil (key : ByteArray) (x : JV) : rins [] key x = [(key, x)] := rfl
theorem rins_cons (q : ByteArray × JV) (m : List (ByteArray × JV)) (key : ByteArray) (x : JV) : rins (q :: m) key x = if blt q.1 key = true then q :: rins m key x else (key, x) :: q :: m := by
  unfold rins rinsK
  by_cases h : blt q.1 key = true
  · simp [List.takeWhile_cons, h]
  · simp [List.takeWhile_cons, h]
theorem rins_mem {m : List (ByteArray × JV)} {key : ByteArray} {x : JV} : ∀ q ∈ rins m key x, q ∈ m ∨ q = (key, x) := by
  induction m with
  | nil => intro q hq; rw [rins_nil] at hq; exact .inr (List.mem_singleton.1 hq)
  | cons p m ih =>
    intro q hq
    rw [rins_cons] at hq
    split at hq
    · rcases List.mem_cons.1 hq with rfl | h
      · exact .inl (List.mem_cons_self ..)
      · exact (ih q h).imp (List.mem_cons_of_mem _) id
    · rcases List.mem_cons.1 hq with rfl | h
      · exact .inr rfl
      · exact .inl h
theorem rins_pw {m : List (ByteArray × JV)} {key : ByteArray} {x : JV} (h : m.Pairwise fun p q => blt p.1 q.1 = true) (hk : ∀ q ∈ m, ¬ q.1 = key) : (rins m key x).Pairwise fun p q => blt p.1 q.1 = true := by
  induction m with
  | nil => rw [rins_nil]; exact List.pairwise_singleton _ _
  | cons p m ih =>
    rw [rins_cons]
    obtain ⟨h1, h2⟩ := List.pairwise_cons.1 h
    split
    · rename_i hl
      refine List.pairwise_cons.2 ⟨fun q hq => ?_, ih h2 fun q hq => hk q (List.mem_cons_of_mem _ hq)⟩
      rcases rins_mem q hq with h3 | rfl
      · exact h1 q h3
      · exact hl
    · rename_i hl
      have hlt : blt key p.1 = true := bytesLess_total _ _ (by simpa [blt] using hl) fun e => hk p (List.mem_cons_self ..) (by
        have := ba_beq p.1 key
        rw [e] at this; simpa using this)
      refine List.pairwise_cons.2 ⟨fun q hq => ?_, h⟩
      rcases List.mem_cons.1 hq with rfl | h3
      · exact hlt
      · exact blt_trans hlt (h1 q h3)
theorem MOK.ins {m : List (ByteArray × JV)} {key : ByteArray} {x : JV} (h : MOK m) (h1 : Utf key) (h2 : jmay x) (hk : ∀ q ∈ m, ¬ q.1 = key) : MOK (rins m key x) :=
  ⟨fun q hq => by
    rcases rins_mem q hq with h3 | rfl
    · exact h.1 q h3
    · exact ⟨h1, h2⟩, rins_pw h.2 hk⟩
theorem msize_ins (m : List (ByteArray × JV)) (key : ByteArray) (x : JV) : msize (rins m key x) = msize m + jsize x := by
  induction m with
  | nil => rw [rins_nil]; simp [msize]
  | cons p m ih =>
    obtain ⟨k, v⟩ := p
    rw [rins_cons]
    split
    · simp only [msize, ih]; omega
    · simp only [msize]; omega
theorem mb_ins {m : List (ByteArray × JV)} {key : ByteArray} {x : JV} (h : mb m) (h1 : key.size ≤ 1000000) (h2 : jb x) : mb (rins m key x) := by
  induction m with
  | nil => rw [rins_nil]; exact ⟨h1, h2, trivial⟩
  | cons p m ih =>
    obtain ⟨k, v⟩ := p
    rw [rins_cons]
    split
    · exact ⟨h.1, h.2.1, ih h.2.2⟩
    · exact ⟨h1, h2, h⟩
theorem lsize_snoc (l : List JV) (x : JV) : lsize (l ++ [x]) = lsize l + jsize x := by
  induction l with
  | nil => simp [lsize]
  | cons a l ih => simp only [List.cons_append, lsize, ih]; omega
theorem lcells_snoc (l : List JV) (x : JV) : (lcells (l ++ [x])).flatten = (lcells l).flatten ++ vcells x := by
  rw [lcells_eq, lcells_eq]; simp
theorem lflat_len (l : List JV) : (lcells l).flatten.length = l.length * 8 := by
  induction l with
  | nil => simp [lcells]
  | cons a l ih => simp only [lcells, List.flatten_cons, List.length_append, ih, vlen, List.length_cons]; omega
theorem ltL_append (n : Nat) (a b : List AV) : AV.ltL n (a ++ b) ↔ AV.ltL n a ∧ AV.ltL n b := by
  induction a with
  | nil => simp [AV.ltL]
  | cons x a ih => simp only [List.cons_append, AV.ltL, ih, and_assoc]
theorem lflat_lt (n : Nat) (l : List JV) : AV.ltL n (lcells l).flatten := by
  induction l with
  | nil => simp [lcells, AV.ltL]
  | cons a l ih => simp only [lcells, List.flatten_cons, ltL_append]; exact ⟨vcells_lt n a, ih⟩
theorem lrow_len (l : List JV) : ∀ r ∈ lcells l, r.length = 8 := fun r hr => by
  rw [lcells_eq] at hr
  obtain ⟨v, _, rfl⟩ := List.mem_map.1 hr
  exact vlen v
theorem lb_snoc {l : List JV} {x : JV} (h : lb l) (hx : jb x) : lb (l ++ [x]) := by
  induction l with
  | nil => exact ⟨hx, trivial⟩
  | cons a l ih => exact ⟨h.1, ih h.2⟩
theorem lmay_snoc {l : List JV} {x : JV} (h : lmay l) (hx : jmay x) : lmay (l ++ [x]) := by
  induction l with
  | nil => exact ⟨hx, trivial⟩
  | cons a l ih => exact ⟨h.1, ih h.2⟩
theorem jfind_none {m : List (ByteArray × JV)} {key : ByteArray} (h : jfind (mkO m) key = none) : ∀ q ∈ m, ¬ q.1 = key := fun q hq e => by
  have h' : (m.find? fun q => decide (q.1 = key)) = none := by
    unfold jfind at h
    rw [if_pos (show (mkO m).kind = 5 from rfl)] at h
    simpa [mkO, JV.m] using h
  have := List.find?_eq_none.1 h' q hq
  simp [e] at this
/-- What a value's reading comes to. -/
structure VR (s : ByteArray) (r : RS) (x : JV × RS) : Prop where
  fwd : RTo s r x.2
  deep : x.2.deep = r.deep
  jb : jb x.1
  size : jsize x.1 ≤ (x.2.a : Int) - r.a + 1
  may : x.2.bad = 0 → jmay x.1
section
variable {rv : RS → JV × RS} {s : ByteArray} (hs : s.size ≤ 100000) (hrv : ∀ r, ROK s r → VR s r (rv r))
include hrv
theorem rarrF_ok : ∀ (k : Nat) (l : List JV) (r : RS), ROK s r → lb l → (r.bad = 0 → lmay l) →
    RTo s r (rarrF rv s k l r).2 ∧ (rarrF rv s k l r).2.deep = r.deep ∧ lb (rarrF rv s k l r).1 ∧ lsize (rarrF rv s k l r).1 ≤ lsize l + ((rarrF rv s k l r).2.a : Int) - r.a + 1 ∧ ((rarrF rv s k l r).2.bad = 0 → lmay (rarrF rv s k l r).1) := by
  intro k
  induction k with
  | zero => intro l r h h1 h2; exact ⟨.refl h, rfl, h1, by dsimp only [rarrF]; omega, h2⟩
  | succ k ih =>
    intro l r h h1 h2
    rw [rarrF]
    have hv := hrv r h
    split
    · split
      · rename_i hp
        have hi := rinc_to hv.fwd.ok (by omega)
        obtain ⟨q1, q2, q3, q4, q5⟩ := ih (l ++ [(rv r).1]) (rinc (rv r).2) hi.ok (lb_snoc h1 hv.jb) (fun e => lmay_snoc (h2 (hv.fwd.b e)) (hv.may e))
        refine ⟨hv.fwd.trans (hi.trans q1), q2.trans hv.deep, q3, ?_, q5⟩
        rw [lsize_snoc] at q4
        have := hv.size
        have h5 : (rinc (rv r).2).a = (rv r).2.a + 1 := rfl
        omega
      · refine ⟨hv.fwd, hv.deep, lb_snoc h1 hv.jb, ?_, fun e => lmay_snoc (h2 (hv.fwd.b e)) (hv.may e)⟩
        rw [lsize_snoc]; have := hv.size; dsimp only; omega
    · exact ⟨.refl h, rfl, h1, by dsimp only; omega, h2⟩
include hs
theorem rarr_ok {r : RS} (h : ROK s r) (hb : r.bad = 0) (ha : r.a < s.size) : VR s r (rarr rv s r) := by
  obtain ⟨o1, o2, o3⟩ := ropen_to h hb ha
  obtain ⟨q1, q2, q3, q4, q5⟩ := rarrF_ok hrv (s.size + 2) [] (ropen s r) o1.ok trivial (fun _ => trivial)
  obtain ⟨w1, w2⟩ := rwant_to (lit := rb1) q1.ok
  unfold rarr
  have hll := llen_le (rarrF rv s (s.size + 2) [] (ropen s r)).1
  have e0l : lsize [] = 0 := rfl
  have ha1 := w1.ok.a; have ha2 := w1.a
  have hd := h.d0; have hd1 := h.d1
  refine ⟨⟨?_, ⟨ha1, w1.ok.b, ?_, ?_⟩, fun e => o1.b (q1.b (w1.b e))⟩, ?_, ?_, ?_, fun e => may_l (q5 (w1.b e))⟩
  · have := q1.a; dsimp only [rdec]; omega
  · dsimp only [rdec]; omega
  · have := w1.ok.d1; dsimp only [rdec]; omega
  · dsimp only [rdec]; omega
  · rw [jb_eq]; simp only [JV.n, JV.s, JV.l, JV.m, mb, and_true]
    exact ⟨Nat.zero_le _, Nat.zero_le _, by omega, Nat.zero_le _, q3⟩
  · simp only [jsize, msize, rdec]; omega
omit hs in
theorem rkey_ok {m : List (ByteArray × JV)} {r : RS} (h : ROK s r) : RTo s r (rkey s m r).2 ∧ (rkey s m r).2.deep = r.deep ∧ (rkey s m r).1.size + r.a ≤ (rkey s m r).2.a ∧ Utf (rkey s m r).1 ∧ ((rkey s m r).2.bad = 0 → ∀ q ∈ m, ¬ q.1 = (rkey s m r).1) := by
  have b1 := rblank_to h
  obtain ⟨t1, t2, t3, t4⟩ := rtext_to b1.ok
  have hb1 := b1.a
  unfold rkey rk2
  by_cases hf : (jfind (mkO m) (rtext s (rblank s r)).1).isSome = true
  · simp only [if_pos hf]
    have f1 := rfail_to (a := (rblank s r).a) (b := 4) t1.ok (by decide)
    have b2 := rblank_to f1.ok
    obtain ⟨w1, w2⟩ := rwant_to (lit := rb3) b2.ok
    refine ⟨b1.trans (t1.trans (f1.trans (b2.trans w1))), w2.trans t2, ?_, t3, fun e => absurd (b2.b (w1.b e)) (rfail_bad (by decide))⟩
    have := w1.a; have := b2.a; have := f1.a; omega
  · simp only [if_neg hf]
    have b2 := rblank_to t1.ok
    obtain ⟨w1, w2⟩ := rwant_to (lit := rb3) b2.ok
    refine ⟨b1.trans (t1.trans (b2.trans w1)), w2.trans t2, ?_, t3, fun _ => jfind_none (by simpa using hf)⟩
    have := w1.a; have := b2.a; omega
omit hs hrv in
theorem rk2_ok {m : List (ByteArray × JV)} {r : RS} (h : ROK s r) : RTo s r (rk2 s m r) ∧ (rk2 s m r).deep = r.deep := by
  have b1 := rblank_to h
  obtain ⟨t1, t2, t3, t4⟩ := rtext_to b1.ok
  unfold rk2
  split
  · exact ⟨b1.trans (t1.trans (rfail_to t1.ok (by decide))), t2⟩
  · exact ⟨b1.trans t1, t2⟩
include hs
theorem robjF_ok : ∀ (k : Nat) (m : List (ByteArray × JV)) (r : RS), ROK s r → mb m → (r.bad = 0 → MOK m) →
    RTo s r (robjF rv s k m r).2 ∧ (robjF rv s k m r).2.deep = r.deep ∧ mb (robjF rv s k m r).1 ∧ msize (robjF rv s k m r).1 ≤ msize m + ((robjF rv s k m r).2.a : Int) - r.a + 1 ∧ ((robjF rv s k m r).2.bad = 0 → MOK (robjF rv s k m r).1) := by
  intro k
  induction k with
  | zero => intro m r h h1 h2; exact ⟨.refl h, rfl, h1, by dsimp only [robjF]; omega, h2⟩
  | succ k ih =>
    intro m r h h1 h2
    rw [robjF]
    obtain ⟨k1, k2, k3, k4, k5⟩ := rkey_ok hrv (m := m) h
    have hv := hrv _ k1.ok
    have hk1 := k1.a; have hk6 := k1.ok.a
    have hins : (rv (rkey s m r).2).2.bad = 0 → MOK (rins m (rkey s m r).1 (rv (rkey s m r).2).1) := fun e => (h2 (k1.b (hv.fwd.b e))).ins k4 (hv.may e) (k5 (hv.fwd.b e))
    split
    · split
      · rename_i hp
        have hi := rinc_to hv.fwd.ok (by omega)
        obtain ⟨q1, q2, q3, q4, q5⟩ := ih (rins m (rkey s m r).1 (rv (rkey s m r).2).1) (rinc (rv (rkey s m r).2).2) hi.ok (mb_ins h1 (by omega) hv.jb) hins
        refine ⟨k1.trans (hv.fwd.trans (hi.trans q1)), q2.trans (hv.deep.trans k2), q3, ?_, q5⟩
        rw [msize_ins] at q4
        have := hv.size
        have h5 : (rinc (rv (rkey s m r).2).2).a = (rv (rkey s m r).2).2.a + 1 := rfl
        omega
      · refine ⟨k1.trans hv.fwd, hv.deep.trans k2, mb_ins h1 (by omega) hv.jb, ?_, hins⟩
        rw [msize_ins]; have := hv.size; dsimp only; omega
    · exact ⟨.refl h, rfl, h1, by dsimp only; omega, h2⟩
theorem robj_ok {r : RS} (h : ROK s r) (hb : r.bad = 0) (ha : r.a < s.size) : VR s r (robj rv s r) := by
  obtain ⟨o1, o2, o3⟩ := ropen_to h hb ha
  obtain ⟨q1, q2, q3, q4, q5⟩ := robjF_ok hs hrv (s.size + 2) [] (ropen s r) o1.ok trivial (fun _ => ⟨fun q hq => by simp at hq, List.Pairwise.nil⟩)
  obtain ⟨w1, w2⟩ := rwant_to (lit := rb2) q1.ok
  unfold robj
  have hll := mlen_le (robjF rv s (s.size + 2) [] (ropen s r)).1
  have e0l : msize [] = 0 := rfl
  have ha1 := w1.ok.a; have ha2 := w1.a
  have hd := h.d0; have hd1 := h.d1
  refine ⟨⟨?_, ⟨ha1, w1.ok.b, ?_, ?_⟩, fun e => o1.b (q1.b (w1.b e))⟩, ?_, ?_, ?_, fun e => may_m (q5 (w1.b e))⟩
  · have := q1.a; dsimp only [rdec]; omega
  · dsimp only [rdec]; omega
  · have := w1.ok.d1; dsimp only [rdec]; omega
  · dsimp only [rdec]; omega
  · rw [jb_eq]; simp only [mkO, JV.n, JV.s, JV.l, JV.m, lb, true_and]
    exact ⟨Nat.zero_le _, Nat.zero_le _, Nat.zero_le _, by omega, q3⟩
  · simp only [mkO, jsize, lsize, rdec]; omega
theorem rnumv_ok {r : RS} (h : ROK s r) (hb : r.bad = 0) (ha : r.a < s.size) : VR s r (rnumv s r) := by
  have he := rEnd_le (s := s) (a := r.a) (by omega)
  have hm := rNum_may (s.extract r.a (rEnd s r.a).1)
  have h3 := h.d1; have h0 := h.d0
  unfold rnumv
  refine ⟨⟨he.1, ⟨by dsimp only; omega, fun _ => he.2, h0, by dsimp only; omega⟩, fun _ => hb⟩, rfl, ?_, ?_, fun _ => may_n hm⟩
  · exact jb_nil _ _ _ _ (by have := hm.size; omega) (Nat.zero_le _)
  · simp only [jsize_nil]; omega
theorem rone_ok {r : RS} (h : ROK s r) : VR s r (rone rv s r) := by
  have hz : ∀ {r' : RS} {v : JV}, RTo s r r' → r'.deep = r.deep → jsize v = 1 → jb v → jmay v → VR s r (v, r') := fun h1 h2 h3 h4 h5 => ⟨h1, h2, h4, by have := h1.a; dsimp only; omega, fun _ => h5⟩
  have h0 : jb vz := jb_nil _ _ _ _ (Nat.zero_le _) (Nat.zero_le _)
  unfold rone
  split
  · rename_i hp; have := pk_yes (s := s) (a := r.a) (bad := r.bad) (by omega); exact robj_ok hs hrv h this.1 this.2.1
  split
  · rename_i hp; have := pk_yes (s := s) (a := r.a) (bad := r.bad) (by omega); exact rarr_ok hs hrv h this.1 this.2.1
  split
  · obtain ⟨t1, t2, t3, t4⟩ := rtext_to h
    exact hz t1 t2 (jsize_nil _ _ _ _) (jb_nil _ _ _ _ (Nat.zero_le _) (by have := t1.ok.a; omega)) (may_s t3)
  split
  · exact hz (rwant_to h).1 (rwant_to h).2 (jsize_nil _ _ _ _) h0 vz_may
  split
  · exact hz (rwant_to h).1 (rwant_to h).2 (jsize_nil _ _ _ _) (jb_nil _ _ _ _ (Nat.zero_le _) (Nat.zero_le _)) (may_b true)
  split
  · exact hz (rwant_to h).1 (rwant_to h).2 (jsize_nil _ _ _ _) (jb_nil _ _ _ _ (Nat.zero_le _) (Nat.zero_le _)) (may_b false)
  split
  · rename_i hp; have := pk_yes (s := s) (a := r.a) (bad := r.bad) (by omega); exact rnumv_ok hs hrv h this.1 this.2.1
  · exact hz (rfail_to h (by decide)) rfl (jsize_nil _ _ _ _) h0 vz_may
end
theorem rval_ok {s : ByteArray} (hs : s.size ≤ 100000) : ∀ (n : Nat) (r : RS), ROK s r → VR s r (rval n s r) := by
  intro n
  induction n with
  | zero => intro r h; exact ⟨.refl h, rfl, jb_nil _ _ _ _ (Nat.zero_le _) (Nat.zero_le _), by simp only [rval, vz, jsize_nil]; omega, fun _ => vz_may⟩
  | succ n ih =>
    intro r h
    have b1 := rblank_to h
    have hv := rone_ok hs ih b1.ok
    have b2 := rblank_to hv.fwd.ok
    rw [rval]
    exact ⟨b1.trans (hv.fwd.trans b2), hv.deep, hv.jb, by have := hv.size; have := b1.a; have := b2.a; dsimp only; omega, fun e => hv.may (b2.b e)⟩
/-- What a text's reading comes to. -/
theorem rParse_ok (s : ByteArray) (h : (rParse s).2.1 = 0) : jmay (rParse s).1 ∧ jb (rParse s).1 ∧ jsize (rParse s).1 ≤ s.size + 2 ∧ s.size ≤ 20000 := by
  unfold rParse at h ⊢
  split at h
  · cases h
  · rename_i hs
    split at h
    · rename_i hb
      rw [if_neg hs, if_pos hb]
      have h0 : ROK s ⟨0, 0, 0, 0⟩ := ⟨Nat.zero_le _, fun _ => Nat.zero_le _, Int.le_refl _, Int.le_refl _⟩
      have hv : VR s ⟨0, 0, 0, 0⟩ (rpar s) := rval_ok (by omega) (s.size + 2) ⟨0, 0, 0, 0⟩ h0
      have hb2 : (rpar s).2.bad = 0 := by
        unfold rparE at hb
        split at hb
        · exact absurd hb (rfail_bad (by decide))
        · exact hb
      exact ⟨hv.may hb2, hv.jb, by have := hv.size; have := hv.fwd.ok.a; dsimp only at *; omega, by omega⟩
    · rename_i hb; exact absurd h hb
/-- What a law takes for a text's value. -/
noncomputable def rValue (s : ByteArray) : JV × Int := if 2000 < s.size then (vz, 0) else if (rParse s).2.1 = 0 then ((rParse s).1, 1) else (vz, 0)
theorem rValue_ok (s : ByteArray) : (rValue s).2 = 0 ∧ (rValue s).1 = vz ∨ (rValue s).2 = 1 ∧ jmay (rValue s).1 ∧ jb (rValue s).1 ∧ jsize (rValue s).1 ≤ 2002 := by
  unfold rValue
  split
  · exact .inl ⟨rfl, rfl⟩
  split
  · rename_i h1 h2
    have := rParse_ok s h2
    exact .inr ⟨rfl, this.1, this.2.1, by have := this.2.2.1; dsimp only; omega⟩
  · exact .inl ⟨rfl, rfl⟩
end Lg
namespace Lg
open Go
variable [GLay]
/-! ### Members as cells -/
def mrow (q : ByteArray × JV) : List AV := .str q.1 :: vcells q.2
theorem mcells_map (m : List (ByteArray × JV)) : mcells m = m.map mrow := mcells_eq m
theorem mrow_len (q : ByteArray × JV) : (mrow q).length = 9 := by simp [mrow, vlen]
theorem mrows_len (m : List (ByteArray × JV)) : ∀ r ∈ mcells m, r.length = 9 := fun r hr => by
  rw [mcells_map] at hr
  obtain ⟨v, _, rfl⟩ := List.mem_map.1 hr
  exact mrow_len v
theorem mflat_len (m : List (ByteArray × JV)) : (mcells m).flatten.length = m.length * 9 := by
  induction m with
  | nil => simp [mcells]
  | cons a m ih => obtain ⟨k, v⟩ := a; simp only [mcells, List.flatten_cons, List.length_append, ih, List.length_cons, vlen]; omega
theorem vones (v : JV) : ones (vcells v) = true := by rw [vcells_eq]; rfl
theorem mones (m : List (ByteArray × JV)) : ones (mcells m).flatten = true := by
  induction m with
  | nil => simp [mcells, ones]
  | cons a m ih =>
    obtain ⟨k, v⟩ := a
    simp only [mcells, List.flatten_cons, ones_append, ih, Bool.and_true, ones, vones]; rfl
theorem mflat_lt (n : Nat) (m : List (ByteArray × JV)) : AV.ltL n (mcells m).flatten := by
  induction m with
  | nil => simp [mcells, AV.ltL]
  | cons a m ih => obtain ⟨k, v⟩ := a; simp only [mcells, List.flatten_cons, ltL_append, AV.ltL, AV.lt, true_and]; exact ⟨vcells_lt n v, ih⟩
theorem mslice_lo (m : List (ByteArray × JV)) (j : Nat) (b : Int) (hb : b = m.length) : ((mcells m).drop j).take (b.toNat - j) = mcells (m.drop j) := by
  subst hb
  rw [Int.toNat_natCast, List.take_of_length_le (by simp [mcells_length]), mcells_map, mcells_map, List.map_drop]
theorem mslice_lo' (m : List (ByteArray × JV)) (j : Nat) : ((mcells m).drop j).take ((mcells m).length - j) = mcells (m.drop j) := by
  rw [List.take_of_length_le (by simp), mcells_map, mcells_map, List.map_drop]
theorem mslice_hi (m : List (ByteArray × JV)) (j : Nat) : ((mcells m).drop (0 : Int).toNat).take (j - (0 : Int).toNat) = mcells (m.take j) := by
  show ((mcells m).drop 0).take (j - 0) = _
  rw [List.drop_zero, Nat.sub_zero, mcells_map, mcells_map, List.map_take]
theorem mflat_ins (m : List (ByteArray × JV)) (key : ByteArray) (v : JV) : (mcells (rins m key v)).flatten = (mcells (m.take (rinsK m key))).flatten ++ (mrow (key, v) ++ (mcells (m.drop (rinsK m key))).flatten) := by
  unfold rins
  rw [mcells_map, mcells_map, mcells_map]; simp
theorem rinsK_le (m : List (ByteArray × JV)) (key : ByteArray) : rinsK m key ≤ m.length := by
  unfold rinsK
  exact (List.takeWhile_sublist _).length_le
theorem rins_len (m : List (ByteArray × JV)) (key : ByteArray) (v : JV) : (rins m key v).length = m.length + 1 := by
  have := rinsK_le m key
  unfold rins; simp; omega
theorem rinsK_yes {m : List (ByteArray × JV)} {key : ByteArray} {j : Nat} {q : ByteArray × JV} (hq : m[j]? = some q) (h : blt q.1 key = true) : rinsK (m.drop j) key = 1 + rinsK (m.drop (j + 1)) key := by
  obtain ⟨hj, rfl⟩ := List.getElem?_eq_some_iff.1 hq
  rw [List.drop_eq_getElem_cons hj]
  unfold rinsK
  simp only [List.takeWhile_cons, h, if_true, List.length_cons]; omega
theorem rinsK_no {m : List (ByteArray × JV)} {key : ByteArray} {j : Nat} {q : ByteArray × JV} (hq : m[j]? = some q) (h : blt q.1 key = false) : rinsK (m.drop j) key = 0 := by
  obtain ⟨hj, rfl⟩ := List.getElem?_eq_some_iff.1 hq
  rw [List.drop_eq_getElem_cons hj]
  unfold rinsK
  simp only [List.takeWhile_cons, h, Bool.false_eq_true, if_false, List.length_nil]
theorem rinsK_end {m : List (ByteArray × JV)} {key : ByteArray} {j : Nat} (h : m.length ≤ j) : rinsK (m.drop j) key = 0 := by
  rw [List.drop_eq_nil_of_le h]; rfl
end Lg
namespace Lg
open Go
/-! ### The reference's reader, to be run by the kernel -/
def rnumvC (s : ByteArray) (r : RS) : JV × RS :=
  (.mk 2 false (pNum (s.extract r.a (rEnd s r.a).1).data.toList).1 e0 [] [],
   ⟨(rEnd s r.a).1, r.deep, (if (pNum (s.extract r.a (rEnd s r.a).1).data.toList).2 = 0 then (if (rEnd s r.a).2 = true then r else rfail r (rEnd s r.a).1 1) else rfail (if (rEnd s r.a).2 = true then r else rfail r (rEnd s r.a).1 1) r.a 5).bad,
    (if (pNum (s.extract r.a (rEnd s r.a).1).data.toList).2 = 0 then (if (rEnd s r.a).2 = true then r else rfail r (rEnd s r.a).1 1) else rfail (if (rEnd s r.a).2 = true then r else rfail r (rEnd s r.a).1 1) r.a 5).spot⟩)
theorem rnumv_C {s : ByteArray} (hs : s.size ≤ 1000) (r : RS) : rnumv s r = rnumvC s r := by
  unfold rnumv rnumvC
  rw [rNum_pNum _ (by rw [ByteArray.size_extract]; omega)]
/-- What a byte begins. -/
def roneC (rv : RS → JV × RS) (s : ByteArray) (r : RS) : JV × RS :=
  if pkv s r.a r.bad = 123 then robj rv s r else
  if pkv s r.a r.bad = 91 then rarr rv s r else
  if pkv s r.a r.bad = 34 then (.mk 3 false {} (rtext s r).1 [] [], (rtext s r).2) else
  if pkv s r.a r.bad = 110 then (vz, rwant s lNull r) else
  if pkv s r.a r.bad = 116 then (.mk 1 true {} e0 [] [], rwant s lTrue r) else
  if pkv s r.a r.bad = 102 then (.mk 1 false {} e0 [] [], rwant s lFalse r) else
  if pkv s r.a r.bad = 45 ∨ (48 ≤ pkv s r.a r.bad ∧ pkv s r.a r.bad ≤ 57) then rnumvC s r else (vz, rfail r r.a 1)
def rvalC : Nat → ByteArray → RS → JV × RS
  | 0, s, r => (vz, r)
  | n + 1, s, r => ((roneC (rvalC n s) s (rblank s r)).1, rblank s (roneC (rvalC n s) s (rblank s r)).2)
theorem rval_C {s : ByteArray} (hs : s.size ≤ 1000) : ∀ n, rval n s = rvalC n s
  | 0 => rfl
  | n + 1 => by
    funext r
    have ih := rval_C hs n
    unfold rval rvalC
    rw [ih]
    have e : ∀ r, rone (rvalC n s) s r = roneC (rvalC n s) s r := fun r => by unfold rone roneC; rw [rnumv_C hs]
    rw [e]
def rparC (s : ByteArray) : JV × RS := rvalC (s.size + 2) s ⟨0, 0, 0, 0⟩
def rparEC (s : ByteArray) : RS := if (rparC s).2.bad = 0 ∧ (rparC s).2.a < s.size then rfail (rparC s).2 (rparC s).2.a 1 else (rparC s).2
def rParseC (s : ByteArray) : JV × Int × Int :=
  if 20000 < s.size then (vz, 5, 20000) else if (rparEC s).bad = 0 then ((rparC s).1, 0, 0) else (vz, (rparEC s).bad, (rparEC s).spot)
theorem rParse_C {s : ByteArray} (hs : s.size ≤ 1000) : rParse s = rParseC s := by
  have e : rpar s = rparC s := by unfold rpar rparC; rw [rval_C hs]
  unfold rParse rParseC rparE rparEC; rw [e]
end Lg
namespace Lg
open Go
theorem ljw_ne {l : List JV} {i : Nat} (c : UInt8) (h : i < l.length) (h0 : i ≠ 0) : ljw c (l.take i) ≠ [] := by
  cases l with
  | nil => simp at h
  | cons a r => obtain ⟨i, rfl⟩ : ∃ j, i = j + 1 := ⟨i - 1, by omega⟩; simp [ljw]
theorem mjw_ne {l : List (ByteArray × JV)} {i : Nat} (c : UInt8) (h : i < l.length) (h0 : i ≠ 0) : mjw c (l.take i) ≠ [] := by
  cases l with
  | nil => simp at h
  | cons a r => obtain ⟨i, rfl⟩ : ∃ j, i = j + 1 := ⟨i - 1, by omega⟩; obtain ⟨k, y⟩ := a; simp [mjw]
theorem tail_app {a b : BL} (h : a ≠ []) : (a ++ b).tail = a.tail ++ b := by cases a with
  | nil => exact absurd rfl h
  | cons => rfl
theorem ljw_tail {l : List JV} {i : Nat} {x : JV} (h : l[i]? = some x) : (ljw 44 (l.take (i + 1))).tail = (if i = 0 then [] else (ljw 44 (l.take i)).tail ++ [44]) ++ jtx x := by
  have hi := (List.getElem?_eq_some_iff.1 h).1
  rw [ljw_take 44 h]
  split
  · rename_i h0; subst h0; simp [ljw]
  · rename_i h0; rw [tail_app (ljw_ne 44 hi h0)]; simp
theorem mjw_tail {l : List (ByteArray × JV)} {i : Nat} {x : ByteArray × JV} (h : l[i]? = some x) : (mjw 44 (l.take (i + 1))).tail = (if i = 0 then [] else (mjw 44 (l.take i)).tail ++ [44]) ++ (quoteL x.1.data.toList ++ 58 :: jtx x.2) := by
  have hi := (List.getElem?_eq_some_iff.1 h).1
  rw [mjw_take 44 h]
  split
  · rename_i h0; subst h0; simp [mjw]
  · rename_i h0; rw [tail_app (mjw_ne 44 hi h0)]; simp
theorem jtx_4 {v : JV} (h : v.kind = 4) : jtx v = 91 :: ((ljw 44 v.l).tail ++ [93]) := by
  rw [jtx_eq, if_neg (by omega), if_neg (by omega), if_neg (by omega), if_pos h, ljw_head]
  split
  · rename_i h0; rw [List.length_eq_zero_iff.1 h0]; rfl
  · rfl
theorem jtx_5 {v : JV} (h : v.kind = 5) : jtx v = 123 :: ((mjw 44 v.m).tail ++ [125]) := by
  rw [jtx_eq, if_neg (by omega), if_neg (by omega), if_neg (by omega), if_neg (by omega), if_pos h, mjw_head]
  split
  · rename_i h0; rw [List.length_eq_zero_iff.1 h0]; rfl
  · rfl
def ex5 : ByteArray := ⟨#[123, 34, 98, 34, 58, 49, 46, 48, 44, 32, 34, 97, 34, 58, 91, 93, 125]⟩
theorem ex5_0 : (rParse ex5).2.1 = 0 := by rw [rParse_C (by decide)]; decide +kernel
theorem ex5_t : jtx (rParse ex5).1 = [123, 34, 97, 34, 58, 91, 93, 44, 34, 98, 34, 58, 49, 125] := by rw [rParse_C (by decide)]; decide +kernel
theorem ex5_ok [GLay] : jb (rParse ex5).1 ∧ jkb (rParse ex5).1 ∧ jsize (rParse ex5).1 ≤ 100 := by
  obtain ⟨h1, h2, h3, h4⟩ := rParse_ok ex5 ex5_0
  have h5 : ex5.size = 17 := rfl
  exact ⟨h2, may_kb _ _ (show jsize (rParse ex5).1 ≤ ((1000 : Nat) : Int) by omega) h1, by omega⟩
theorem vz_jb : jb vz ∧ jkb vz := by
  constructor
  · exact ⟨Nat.zero_le _, Nat.zero_le _, Nat.zero_le _, Nat.zero_le _, trivial, trivial⟩
  · exact ⟨by decide, by decide, ⟨by decide, by decide⟩, trivial, trivial⟩
theorem vz_tx : jtx vz = nullL := by rfl
end Lg
namespace Lg
open Go Go.RowKit
variable [GLay]
/-! ### Maps of the call's own -/
theorem Good.newMap {s : CS} (g : Good s) : ∃ s', s'.σ = s.σ ++ [.map []] ∧ s'.w = s.w.alloc (.map #[] 0) ∧ Good s' ∧ Ext s s' ∧ V s' (.mapv s.σ.length) (.map (some s.w.heap.size)) := by
  let s' : CS := { σ := s.σ ++ [.map []], μ := fun p => if p = s.σ.length then ⟨s.w.heap.size, 0, 0⟩ else s.μ p, ok := s.ok, w := s.w.alloc (.map #[] 0) }
  have hold : ∀ {p : Nat}, p < s.σ.length → s'.σ[p]? = s.σ[p]? ∧ s'.μ p = s.μ p := fun {p} h =>
    ⟨by show (s.σ ++ [_])[p]? = _; rw [List.getElem?_append_left h], by show (if p = _ then _ else _) = _; rw [if_neg (by omega)]⟩
  have hnew : s'.σ[s.σ.length]? = some (.map []) ∧ s'.μ s.σ.length = ⟨s.w.heap.size, 0, 0⟩ := ⟨by show (s.σ ++ [_])[_]? = _; simp, by show (if _ = _ then _ else _) = _; rw [if_pos rfl]⟩
  have hl : s'.σ.length = s.σ.length + 1 := by show (s.σ ++ [_]).length = _; simp
  have hcase : ∀ {p : Nat} {o : AO}, s'.σ[p]? = some o → (p < s.σ.length ∧ s.σ[p]? = some o ∧ s'.μ p = s.μ p) ∨ (p = s.σ.length ∧ o = .map []) := fun {p o} h => by
    have hp' := (List.getElem?_eq_some_iff.1 h).1
    rcases Nat.lt_or_ge p s.σ.length with hp | hp
    · exact .inl ⟨hp, (hold hp).1 ▸ h, (hold hp).2⟩
    · have e : p = s.σ.length := by omega
      subst e; rw [hnew.1] at h; exact .inr ⟨rfl, (Option.some.inj h).symm⟩
  have hlive : ∀ {p : Nat}, s'.live p → (p < s.σ.length ∧ s.live p ∧ s'.μ p = s.μ p) ∨ p = s.σ.length := fun {p} h => by
    have hp := CS.live_lt h
    rcases Nat.lt_or_ge p s.σ.length with h1 | h1
    · refine .inl ⟨h1, ?_, (hold h1).2⟩
      unfold CS.live at h ⊢
      rw [(hold h1).1, (hold h1).2] at h
      exact h
    · exact .inr (by omega)
  have hsz : s'.w.heap.size = s.w.heap.size + 1 := alloc_size _ _
  have hheap : ∀ {b : Nat}, b < s.w.heap.size → s'.w.heap[b]? = s.w.heap[b]? := fun {b} hb => by
    show (s.w.alloc _).heap[b]? = _; rw [alloc_heap, if_neg (by omega)]
  have hlt : ∀ {p : Nat} {o : AO}, s.σ[p]? = some o → p < s.σ.length := fun h => (List.getElem?_eq_some_iff.1 h).1
  have x : Ext s s' := {
    objs := fun p o h => ⟨o, by rw [(hold (hlt h)).1]; exact h, OLe.refl o, fun _ => (hold (hlt h)).2⟩
    ok := fun _ h => h
    okn := fun _ h => .inl h
    mun := fun p h => by
      rcases hlive h with ⟨h1, h2, h3⟩ | rfl
      · exact .inl ⟨h1, h2, by rw [h3]⟩
      · exact .inr (by rw [hnew.2]; exact Nat.le_refl _)
    frame := fun b hb _ => hheap hb
    size := by omega
    shp := fun p cs cs' z h1 _ h3 => by rw [(hold (hlt h1)).2]; exact (shape_eq (hheap (shape_some h3))).trans h3
    tape := rfl
    os := rfl
    output := rfl }
  refine ⟨s', rfl, rfl, ⟨fun b hb => Nat.lt_of_lt_of_le (g.okb b hb) x.size, fun p o ho => ?_, fun p q hpq hp hq => ?_, fun b o ho => ?_⟩, x, ?_⟩
  · rcases hcase ho with ⟨h1, h2, h3⟩ | ⟨rfl, rfl⟩
    · exact ORep.keep g x h2 h3 (fun hl => (g.live_lt hl).2) (fun hl => hheap (g.live_lt hl).1)
    · refine ⟨?_, [], 0, ?_, PW.nil⟩
      · rw [hnew.2]; exact fun hk => absurd (g.okb _ hk) (by simp)
      · rw [hnew.2]; show (s.w.alloc _).heap[_]? = _; rw [alloc_heap, if_pos rfl]
  · rcases hlive hp with ⟨p1, p2, p3⟩ | rfl <;> rcases hlive hq with ⟨q1, q2, q3⟩ | rfl
    · rw [p3, q3]; exact g.inj p q hpq p2 q2
    · rw [p3, hnew.2]; have := (g.live_lt p2).1; show _ ≠ s.w.heap.size; omega
    · rw [q3, hnew.2]; have := (g.live_lt q2).1; show s.w.heap.size ≠ _; omega
    · exact absurd rfl hpq
  · obtain ⟨h1, h2⟩ := g.glob b o ho
    exact ⟨h1, (hheap (g.okb b h1)).trans h2⟩
  · have := V.mapv (s := s') s.σ.length [] hnew.1
    rw [hnew.2] at this
    exact this
theorem Good.setMap {s : CS} (g : Good s) {p : Nat} {l l' : List (AV × AV)} (ho : s.σ[p]? = some (.map l)) {es : List MapEntry} {c : Nat} (hv : PW s (mflat l') (mflat (es.map fun e => (e.key, e.val)))) :
    ∃ s', s'.σ = s.σ.set p (.map l') ∧ s'.w = { s.w with heap := s.w.heap.setIfInBounds (s.μ p).b (.map es.toArray c) } ∧ Good s' ∧ Ext s s' := by
  have hp : s.live p := by unfold CS.live; rw [ho]; trivial
  have hblt := (g.live_lt hp).1
  have hlt : p < s.σ.length := (List.getElem?_eq_some_iff.1 ho).1
  let s' : CS := { s with σ := s.σ.set p (.map l'), w := { s.w with heap := s.w.heap.setIfInBounds (s.μ p).b (.map es.toArray c) } }
  have hso : ∀ b, b ≠ (s.μ p).b → s'.w.heap[b]? = s.w.heap[b]? := fun b hb => by
    show (s.w.heap.setIfInBounds _ _)[b]? = _; rw [Array.getElem?_setIfInBounds, if_neg (fun e => hb e.symm)]
  have hst : s'.w.heap[(s.μ p).b]? = some (.map es.toArray c) := by
    show (s.w.heap.setIfInBounds _ _)[_]? = _; rw [Array.getElem?_setIfInBounds, if_pos rfl, if_pos hblt]
  have hother : ∀ {q : Nat}, q ≠ p → s'.σ[q]? = s.σ[q]? := fun {q} hq => by
    show (s.σ.set p _)[q]? = _; rw [List.getElem?_set, if_neg (fun e => hq e.symm)]
  have hthis : s'.σ[p]? = some (.map l') := by show (s.σ.set p _)[p]? = _; simp [hlt]
  have hlive' : ∀ {q : Nat}, s'.live q → s.live q := fun {q} hq => by
    by_cases e : q = p
    · subst e; exact hp
    · unfold CS.live at hq ⊢; rw [hother e] at hq; exact hq
  have x : Ext s s' := {
    objs := fun q r hr => by
      by_cases e : q = p
      · subst e
        rw [ho] at hr; cases hr
        exact ⟨_, hthis, .map _ _, fun _ => rfl⟩
      · exact ⟨r, by rw [hother e]; exact hr, OLe.refl r, fun _ => rfl⟩
    ok := fun _ h => h
    okn := fun _ h => .inl h
    mun := fun q hq => .inl ⟨CS.live_lt (hlive' hq), hlive' hq, rfl⟩
    frame := fun b _ hne => hso b (fun e => hne p hp e.symm)
    size := by show _ ≤ (s.w.heap.setIfInBounds _ _).size; simp
    shp := fun q cs cs' z h1 h2 h3 => by
      by_cases e : q = p
      · subst e; rw [ho] at h1; cases h1
      · have hq : s.live q := by unfold CS.live; rw [h1]; trivial
        exact (shape_eq (hso _ (fun e2 => g.inj q p e hq hp e2))).trans h3
    tape := rfl
    os := rfl
    output := rfl }
  refine ⟨s', rfl, rfl, ⟨fun b hb => Nat.lt_of_lt_of_le (g.okb b hb) x.size, fun q r hr => ?_, fun q q' hne h1 h2 => g.inj q q' hne (hlive' h1) (hlive' h2), fun b r hr => ?_⟩, x⟩
  · by_cases e : q = p
    · subst e
      rw [hthis] at hr; cases hr
      exact ⟨(g.live_lt hp).2, es, c, hst, hv.mono g x⟩
    · have hr' : s.σ[q]? = some r := by rw [← hother e]; exact hr
      exact ORep.keep g x hr' rfl (fun hq => (g.live_lt hq).2) (fun hq => hso _ (g.inj q p e hq hp))
  · obtain ⟨h1, h2⟩ := g.glob b r hr
    exact ⟨h1, (hso b (fun e => (g.live_lt hp).2 (e ▸ h1))).trans h2⟩
variable {P : Program} {σ l : List AO} {e : Env} {o : Oper} {p : Nat} {x : AO}
theorem op_makeMap {T : TypeId} (ho : o.op = .makeMap T none) : AOp P σ e o (.mapv σ.length) (σ ++ [.map []]) := by
  intro s a hs g hv K Q hk _
  subst hs
  obtain ⟨s', e1, e2, g', x', hv'⟩ := g.newMap
  refine wp_value (w' := s'.w) ?_ (hk _ _ s' ⟨rfl, e1⟩ g' x' hv')
  rw [e2]
  simp [execOp, ho, Instr.makeMap, Sem.run]
theorem V.inv_mapv {s : CS} {c : Value} (h : V s (.mapv p) c) : c = .map (some (s.μ p).b) := by cases h; rfl
/-! ### Keys that are strings -/
theorem ba_eqq (a b : ByteArray) : (a == b) = decide (a = b) := by
  obtain ⟨a⟩ := a
  obtain ⟨b⟩ := b
  show (a == b) = _
  by_cases h : a = b
  · subst h; simp
  · have : ¬ (ByteArray.mk a = ByteArray.mk b) := fun e => h (by injection e)
    simp [h, this]
def smap (m : List (ByteArray × AV)) : List (AV × AV) := m.map fun q => (.str q.1, q.2)
def mget : List (ByteArray × AV) → ByteArray → Option (Nat × AV)
  | [], _ => none
  | (x, v) :: r, k => if k = x then some (0, v) else (mget r k).map fun z => (z.1 + 1, z.2)
theorem findNow_s {s : CS} (k : ByteArray) : ∀ (m : List (ByteArray × AV)) (es : List MapEntry) (i : Nat), PW s (mflat (smap m)) (mflat (es.map fun e => (e.key, e.val))) →
    ∃ r, Instr.findNow .string (.string k) es i = some r ∧ (match mget m k with
      | none => r = none
      | some (j, v) => ∃ c, r = some (i + j, c) ∧ V s v c)
  | [], es, i, h => by
    have := h.inv_nil
    cases es with
    | nil => exact ⟨none, rfl, rfl⟩
    | cons a r => simp [mflat] at this
  | (y, v) :: m, es, i, h => by
    cases es with
    | nil => have := h.1; simp [smap, mflat] at this
    | cons a r =>
      have h' : PW s (.str y :: v :: mflat (smap m)) (a.key :: a.val :: mflat (r.map fun e => (e.key, e.val))) := h
      have k1 := h'.2 0 _ _ rfl rfl
      have k2 := h'.2 1 _ _ rfl rfl
      have k3 : PW s (mflat (smap m)) (mflat (r.map fun e => (e.key, e.val))) := by
        obtain ⟨q, qs, e1, _, h2⟩ := h'.inv_cons
        obtain ⟨q2, qs2, e2, _, h3⟩ := h2.inv_cons
        cases e1; cases e2; exact h3
      simp only [Instr.findNow, k1.inv_str, Instr.sameNow]
      simp only [mget]
      by_cases hk : k = y
      · subst hk
        rw [if_pos rfl]
        refine ⟨some (i, a.val), ?_, a.val, rfl, k2⟩
        rw [show (k == k) = true by rw [ba_eqq]; simp]
      · rw [if_neg hk]
        obtain ⟨r', h1, h2⟩ := findNow_s k m r (i + 1) k3
        refine ⟨r', ?_, ?_⟩
        · rw [show (k == y) = false by rw [ba_eqq]; simpa using hk]; exact h1
        · revert h2
          cases mget m k with
          | none => exact id
          | some z => obtain ⟨j, v'⟩ := z; rintro ⟨c, e1, e2⟩; exact ⟨c, by rw [e1]; congr 1; congr 1; omega, e2⟩
instance : LawfulBEq ByteArray where
  eq_of_beq {a b} h := by rw [ba_eqq] at h; exact of_decide_eq_true h
  rfl {a} := by rw [ba_eqq]; exact decide_eq_true rfl
theorem mget_map (f : AV) (ks : List ByteArray) (k : ByteArray) : (mget (ks.map fun x => (x, f)) k).map (·.2) = if k ∈ ks then some f else none := by
  induction ks with
  | nil => simp [mget]
  | cons a r ih =>
    simp only [List.map_cons, mget]
    by_cases h : k = a
    · subst h; simp
    · rw [if_neg h]
      simp only [Option.map_map, List.mem_cons, h, false_or]
      rw [← ih]
      cases mget (r.map fun x => (x, f)) k <;> rfl
section
variable {T K E : TypeId} {a b c : Operand} {m : List (ByteArray × AV)} {k : ByteArray} {z : Value}
theorem op_lookupS (ho : o.op = .lookup T a b false) (hu : P.underlying T = some (.map K E)) (hK : P.underlying K = some .string) (hz : ∀ w, (zeroValue E).run P w = Result.ok z w) (hx : opO e a = some (.mapv p)) (hy : opO e b = some (.str k))
    (hσ : σ[p]? = some (.map (smap m))) : AOp P σ e o (((mget m k).map (·.2)).getD (ofConst z)) σ :=
  .of_run fun s ac hs g hv => by
    subst hs
    have h1 := opO_eq hx ▸ hv a (by simp [ho, Op.operands])
    have h2 := (opO_eq hy ▸ hv b (by simp [ho, Op.operands])).inv_str
    have h1' := h1.inv_mapv
    obtain ⟨hnok, es, ck, hb, hpw⟩ := g.obj p _ hσ
    obtain ⟨r, hr, hm⟩ := findNow_s k m es 0 hpw
    have hc : ∀ em, (Instr.checkKey em 10000 K (.string k)).run P s.w = .ok () s.w := fun em => MapKept.run_checkKey (k := .string k) hK (by simp [MapKept.IsKey]) em 9999
    have hf : (Instr.findKey K (.string k) es).run P s.w = .ok r s.w := MapKept.run_findKey hK hr
    cases hg : mget m k with
    | none =>
      rw [hg] at hm
      subst hm
      refine ⟨z, ?_, by simpa using V_ofConst s z⟩
      simp [execOp, ho, h1', h2, Instr.lookup, run_underlying hu, MapKept.run_getObj_map hb, hc, hf, hz, Result.andThen]
    | some y =>
      obtain ⟨j, v⟩ := y
      rw [hg] at hm
      obtain ⟨cv, rfl, hcv⟩ := hm
      refine ⟨cv, ?_, by simpa using hcv⟩
      simp [execOp, ho, h1', h2, Instr.lookup, run_underlying hu, MapKept.run_getObj_map hb, hc, hf, Result.andThen]
/-- A key that isn't there yet. -/
theorem op_mapUpdS {v : AV} (ho : o.op = .mapUpdate T a b c) (hu : P.underlying T = some (.map K E)) (hK : P.underlying K = some .string) (hx : opO e a = some (.mapv p)) (hy : opO e b = some (.str k)) (hc : opO e c = some v)
    (hσ : σ[p]? = some (.map (smap m))) (hn : mget m k = none) : AOp P σ e o .any (σ.set p (.map (smap (m ++ [(k, v)])))) := by
  intro s ac hs g hv Kk Q hk _
  subst hs
  have h1 := opO_eq hx ▸ hv a (by simp [ho, Op.operands])
  have h2 := (opO_eq hy ▸ hv b (by simp [ho, Op.operands])).inv_str
  have h3 := opO_eq hc ▸ hv c (by simp [ho, Op.operands])
  have h1' := h1.inv_mapv
  obtain ⟨hnok, es, ck, hb, hpw⟩ := g.obj p _ hσ
  obtain ⟨r, hr, hm⟩ := findNow_s k m es 0 hpw
  rw [hn] at hm
  subst hm
  have hcc : (Instr.checkKey false 10000 K (.string k)).run P s.w = .ok () s.w := MapKept.run_checkKey (k := .string k) hK (by simp [MapKept.IsKey]) false 9999
  have hf : (Instr.findKey K (.string k) es).run P s.w = .ok none s.w := MapKept.run_findKey hK hr
  have mf : ∀ {α : Type} (x y : List (α × α)), mflat (x ++ y) = mflat x ++ mflat y := fun {α} x y => by
    induction x with
    | nil => rfl
    | cons q r ih => simp [mflat, ih]
  obtain ⟨s', e1, e2, g', x'⟩ := g.setMap hσ (l' := smap (m ++ [(k, v)])) (es := es ++ [{ key := .string k, val := ac.eval c, born := ck }]) (c := ck + 1) (by
    simp only [smap, List.map_append, mf]
    exact hpw.append (PW.cons (.str k) (PW.cons h3 PW.nil)))
  refine wp_skipv (w' := s'.w) ?_ (hk .any undef s' ⟨rfl, e1⟩ g' x' (.any _))
  rw [e2]
  simp [execOp, ho, h1', h2, Instr.mapUpdate, run_underlying hu, MapKept.run_getObj_map hb, hcc, hf, MapKept.run_setObj_map _ hb, Result.andThen]
end
end Lg
namespace Lg
open Go
theorem ltLL_str (m : Nat) (l : List ByteArray) : AV.ltLL m (l.map fun x => [AV.str x]) := by
  induction l with
  | nil => simp [AV.ltLL]
  | cons x l ih => simp [AV.ltLL, AV.ltL, AV.lt]; simpa using ih
/-! ### Keywords -/
def kwL : List (ByteArray × Nat) := [
 (⟨#[116, 121, 112, 101]⟩, 1),
 (⟨#[101, 110, 117, 109]⟩, 2),
 (⟨#[99, 111, 110, 115, 116]⟩, 3),
 (⟨#[109, 105, 110, 105, 109, 117, 109]⟩, 4),
 (⟨#[109, 97, 120, 105, 109, 117, 109]⟩, 4),
 (⟨#[109, 105, 110, 76, 101, 110, 103, 116, 104]⟩, 5),
 (⟨#[109, 97, 120, 76, 101, 110, 103, 116, 104]⟩, 5),
 (⟨#[109, 105, 110, 73, 116, 101, 109, 115]⟩, 5),
 (⟨#[109, 97, 120, 73, 116, 101, 109, 115]⟩, 5),
 (⟨#[117, 110, 105, 113, 117, 101, 73, 116, 101, 109, 115]⟩, 6),
 (⟨#[114, 101, 113, 117, 105, 114, 101, 100]⟩, 7),
 (⟨#[105, 116, 101, 109, 115]⟩, 8),
 (⟨#[97, 100, 100, 105, 116, 105, 111, 110, 97, 108, 80, 114, 111, 112, 101, 114, 116, 105, 101, 115]⟩, 8),
 (⟨#[110, 111, 116]⟩, 8),
 (⟨#[112, 114, 111, 112, 101, 114, 116, 105, 101, 115]⟩, 9),
 (⟨#[36, 100, 101, 102, 115]⟩, 9),
 (⟨#[97, 108, 108, 79, 102]⟩, 10),
 (⟨#[97, 110, 121, 79, 102]⟩, 10),
 (⟨#[111, 110, 101, 79, 102]⟩, 10),
 (⟨#[36, 114, 101, 102]⟩, 11)]
/-- Which kind of keyword a name is; 0: none. -/
def rk (n : ByteArray) : Nat := ((kwL.find? fun q => decide (n = q.1)).map (·.2)).getD 0
def schB (v : JV) : Bool := decide (v.kind = 1) || decide (v.kind = 5)
def tyL : List ByteArray := [⟨#[110, 117, 108, 108]⟩, ⟨#[98, 111, 111, 108, 101, 97, 110]⟩, ⟨#[110, 117, 109, 98, 101, 114]⟩, ⟨#[105, 110, 116, 101, 103, 101, 114]⟩, ⟨#[115, 116, 114, 105, 110, 103]⟩, ⟨#[97, 114, 114, 97, 121]⟩, ⟨#[111, 98, 106, 101, 99, 116]⟩]
def tyB (v : JV) : Bool := decide (v.kind = 3) && tyL.any (fun t => decide (v.s = t))
/-- All are texts, no two the same. -/
def txI (l : List JV) (i : Nat) : Prop := ∀ (a : Nat) x, a < i → l[a]? = some x → x.kind = 3 ∧ ∀ (b : Nat) y, b < a → l[b]? = some y → ¬ x.s = y.s
noncomputable def txB (v : JV) : Bool := pb (txI v.l v.l.length) && decide (v.kind = 4)
noncomputable def kOK (c : Nat) (v : JV) : Bool := match c with
  | 1 => tyB v || (txB v && decide (0 < v.l.length) && v.l.all tyB)
  | 2 => decide (v.kind = 4) && decide (0 < v.l.length)
  | 3 => true
  | 4 => decide (v.kind = 2)
  | 5 => decide (v.kind = 2) && rWhole v.n && !v.n.neg
  | 6 => decide (v.kind = 1)
  | 7 => txB v
  | 8 => schB v
  | 9 => decide (v.kind = 5) && v.m.all (fun q => schB q.2)
  | 10 => decide (v.kind = 4) && decide (0 < v.l.length) && v.l.all schB
  | 11 => decide (v.kind = 3)
  | _ => false
/-- What a name tells of a value: 0: it may have it. -/
noncomputable def rShape (n : ByteArray) (v : JV) : Int := if rk n = 0 then 10 else if kOK (rk n) v = true then 0 else 11
/-- The schemas in it. -/
def kidsM (n : ByteArray) (v : JV) : List (ByteArray × JV) :=
  if rk n = 8 then [(e0, v)] else if rk n = 9 then v.m else if rk n = 10 then v.l.zipIdx.map (fun q => (itoaB q.2, q.1)) else []
end Lg
namespace Lg
open Go Go.RowKit
section
variable [GLay]
variable {P : Program} {N : Nat} {σ l : List AO} {e : Env} {Q : QA} {o : Oper}
/-- A slot's value, taken for something as good. -/
theorem AWp_slotLe {c : Code} (t : Nat) {v w : AV} (hl : lookO e.l t = some v) (hle : AVle v w) (k : AWp P N c (e.put (some t) w) σ Q) (ht : t < N) : AWp P N c e σ Q := fun s0 s a hs g x he => by
  subst hs
  have hv := he.tmps t
  rw [show e.look t = v from lookO_eq hl] at hv
  exact k s0 s a rfl g x (by
    have h1 := he.put (some t) (hle _ _ hv) (fun d hd => by cases hd; exact ht)
    have h2 : a.put (some t) (a.eval (.tmp t)) = a := put_self (by rw [he.size]; exact ht)
    rwa [h2] at h1)
/-- A nil slice in a slot becomes a slice of an array of no block. -/
theorem AWp_ghostT {c : Code} (t sz : Nat) (hl : lookO e.l t = some .nils) (k : AWp P N c (e.put (some t) (.arr σ.length 0 sz 0 0)) (σ ++ [AO.arr sz 0 []]) Q) (ht : t < N) : AWp P N c e σ Q := fun s0 s a hs g x he => by
  subst hs
  obtain ⟨s1, e1, e2, g1, x1⟩ := g.ghost sz
  have hv := (he.mono g x1).tmps t
  rw [show e.look t = .nils from lookO_eq hl] at hv
  have hv0 := hv.inv_nils
  have hv' : V s1 (.arr s.σ.length 0 sz 0 0) (a.eval (.tmp t)) := by
    rw [hv0]; exact .arr _ _ _ _ _ _ rfl (.mk (cs := []) (by rw [e1]; simp) ⟨rfl, .inl ⟨none, rfl, rfl⟩⟩)
  have := k s0 s1 a e1 g1 (x.trans x1) (by
    have h1 := (he.mono g x1).put (some t) hv' (fun d hd => by cases hd; exact ht)
    have h2 : a.put (some t) (a.eval (.tmp t)) = a := put_self (by rw [he.size]; exact ht)
    rwa [h2] at h1)
  rwa [e2] at this
theorem AWp_ghostTO {c : Code} (t sz n : Nat) (hn : l.length = n) (hl : lookO e.l t = some .nils) (k : AWp P N c (e.put (some t) (.arr (σ.length + n) 0 sz 0 0)) (σ ++ (l ++ [AO.arr sz 0 []])) Q) (ht : t < N) : AWp P N c e (σ ++ l) Q :=
  AWp_ghostT t sz hl (by rw [List.length_append, hn, List.append_assoc]; exact k) ht
theorem AWp_freezeMO {c : Code} (t k gg n : Nat) (m : List (ByteArray × JV)) (hn : m.length = n) (hl : lookO e.l t = some (.arr (σ.length + k) gg 9 0 n)) (hk : l[k]? = some (.arr 9 gg (mcells m).flatten)) (h : AWp P N c (e.put (some t) (.sl false 9 (mcells m))) (σ ++ l.set k .dead) Q) (ht : t < N) : AWp P N c e (σ ++ l) Q :=
  AWp_freezeArr t (σ.length + k) gg 9 0 n hl (by rw [get_own]; exact hk) (mcells m) (by rw [Nat.zero_mul, List.drop_zero, ← hn, ← mflat_len, List.take_length]) (mrows_len _) (by rw [mcells_length, hn]) (by decide) (by rw [mflat_len]; omega) (by rw [set_own]; exact h) ht
/-- A slice asked whether it is nil: an empty one may be, or may not. -/
theorem op_eqSlR {T T' E : TypeId} {x : Operand} {f : Bool} {sz : Nat} {es : List (List AV)} (ho : o.op = .binOp .eql T x (.const (.slice none 0 0)) T') (hu : P.underlying T = some (.slice E)) (hx : opO e x = some (.sl f sz es)) :
    AOpR P σ e o (fun v σ' => σ' = σ ∧ ∃ b, v = .bool b ∧ (b = true → es = [])) (fun _ _ => False) := fun s a hs g hv K Q hk hq => by
  have h1 := opO_eq hx ▸ hv x (by simp [ho, Op.operands])
  obtain ⟨ad, len, cap, hc, hn⟩ : ∃ ad len cap, a.eval x = .slice ad len cap ∧ (ad = none → es = []) := by
    rcases h1.inv_sl with ⟨ad, h, he⟩ | ⟨b, off, cap, vs, h, _⟩
    · exact ⟨ad, 0, 0, h, fun _ => he⟩
    · exact ⟨_, _, _, h, fun h => by cases h⟩
  have he : ∀ d, (Go.Op.equalIn (d + 1) T (.slice ad len cap) (.slice none 0 0)).run P s.w = .ok ad.isNone s.w := fun d => by cases ad <;> simp [Go.Op.equalIn, run_underlying hu]
  have he' : (Go.Op.equal T (.slice ad len cap) (.slice none 0 0)).run P s.w = .ok ad.isNone s.w := he 9999
  have hb : (binOp .eql T (.slice ad len cap) (.slice none 0 0)).run P s.w = .ok (.bool ad.isNone) s.w := by
    simp only [binOp]; simp [he']
  have hg : (eqGuard .eql T x (.const (.slice none 0 0)) (.slice ad len cap) (.slice none 0 0)).run P s.w = .ok () s.w := by
    simp [eqGuard]
  have hrun : (execOp a.eval o).run P s.w = .ok (.value (.bool ad.isNone)) s.w := by
    have hc2 : a.eval (.const (.slice none 0 0)) = .slice none 0 0 := rfl
    simp [execOp, ho, hc, hc2, hb, hg]
  exact wp_value hrun (hk (.bool ad.isNone) _ s ⟨hs, _, rfl, fun h => hn (by simpa using h)⟩ g (Ext.refl s) (.bool _))
end
/-! ### Kids -/
def kZ (l : List JV) : List (ByteArray × JV) := l.zipIdx.map fun q => (itoaB q.2, q.1)
theorem kZ_len (l : List JV) : (kZ l).length = l.length := by simp [kZ]
theorem kZ_take {l : List JV} {i : Nat} {x : JV} (hx : l[i]? = some x) : kZ (l.take (i + 1)) = kZ (l.take i) ++ [(itoaB i, x)] := by
  have hi := (List.getElem?_eq_some_iff.1 hx).1
  unfold kZ
  rw [List.take_add_one, hx, List.zipIdx_append, List.map_append]
  simp [Nat.min_eq_left (Nat.le_of_lt hi)]
theorem zi_all (p : JV → Bool) (f : Nat → ByteArray) (l : List JV) : ∀ k, ((l.zipIdx k).map fun q => (f q.2, q.1)).all (fun q => p q.2) = l.all p := by
  induction l with
  | nil => intro k; rfl
  | cons a r ih => intro k; simp only [List.zipIdx_cons, List.map_cons, List.all_cons]; rw [ih]
theorem kZ_all (p : JV → Bool) (l : List JV) : (kZ l).all (fun q => p q.2) = l.all p := zi_all p (fun n => itoaB n) l 0
theorem mcells_snoc [GLay] (m : List (ByteArray × JV)) (q : ByteArray × JV) : (mcells (m ++ [q])).flatten = (mcells m).flatten ++ mrow q := by
  rw [mcells_map, mcells_map]; simp
theorem txI_step {l : List JV} {i : Nat} {x : JV} (hi : txI l i) (hx : l[i]? = some x) (h2 : x.kind = 3) (hn : ∀ (b : Nat) y, b < i → l[b]? = some y → ¬ x.s = y.s) : txI l (i + 1) := by
  intro a y ha hy
  by_cases e : a = i
  · subst e; rw [hx] at hy; cases hy; exact ⟨h2, hn⟩
  · exact hi a y (by omega) hy
end Lg
