import Derived.Test.YtehjmhgedbfddaaDoorLg6
set_option linter.unusedVariables false
set_option linter.unusedSimpArgs false
set_option linter.unusedSectionVars false
namespace Lg
open Go Go.RowKit
variable [GLay]

variable {P : Program} {σ : List AO} {e : Env} {o : Oper}

/-! ### Stores -/
def AV.one : AV → Bool
  | .agg _ | .tup _ | .any => false
  | _ => true
theorem V.one {s : CS} {a : AV} {c : Value} (h : V s a c) (ha : a.one = true) : c.oneCell' = true := by
  cases h <;> first | rfl | assumption | simp [AV.one] at ha

/-- A value's cells. -/
def AV.cells : AV → List AV
  | .agg cs => cs
  | a => [a]
def ones : List AV → Bool
  | [] => true
  | a :: r => a.one && ones r
theorem ones_iff (l : List AV) : ones l = true ↔ ∀ a ∈ l, a.one = true := by
  induction l with
  | nil => simp [ones]
  | cons a r ih => simp [ones, ih]
theorem cells_one {v : Value} (h : v.oneCell' = true) : v.cells = #[v] := by cases v <;> simp_all [Value.oneCell', Value.cells]
theorem V.cells {s : CS} {a : AV} {c : Value} (h : V s a c) (ha : ones a.cells = true) : ∃ vs : List Value, c.cells.toList = vs ∧ PW s a.cells vs ∧ ∀ v ∈ vs, v.oneCell' = true := by
  have hone : ∀ {cs : List AV} {vs : List Value}, PW s cs vs → ones cs = true → ∀ v ∈ vs, v.oneCell' = true := fun {cs vs} h1 h2 v hv => by
    obtain ⟨i, hi, rfl⟩ := List.getElem_of_mem hv
    have hi' : i < cs.length := h1.1 ▸ hi
    exact (h1.2 i cs[i] vs[i] (List.getElem?_eq_getElem hi') (List.getElem?_eq_getElem hi)).one ((ones_iff cs).1 h2 _ (List.getElem_mem hi'))
  by_cases hag : ∃ cs, a = .agg cs
  · obtain ⟨cs, rfl⟩ := hag
    obtain ⟨vs, rfl, hp⟩ := h.inv_agg
    exact ⟨vs, by simp [Value.cells], hp, hone hp ha⟩
  · have hc : a.cells = [a] := by cases a <;> simp_all [AV.cells]
    rw [hc] at ha ⊢
    have h1 : a.one = true := by simpa [ones] using ha
    have h2 := h.one h1
    exact ⟨[c], by simp [cells_one h2], .cons h .nil, by simpa using h2⟩

/-- New cells in the place of old ones. -/
def putAt : List AV → List AV → Option (List AV)
  | cs, [] => some cs
  | _ :: cs, n :: ns => (putAt cs ns).map (n :: ·)
  | [], _ :: _ => none
def spl : Nat → List AV → List AV → Option (List AV)
  | 0, cs, ns => putAt cs ns
  | k + 1, c :: cs, ns => (spl k cs ns).map (c :: ·)
  | _ + 1, [], _ => none
theorem putAt_eq : ∀ {cs ns ds : List AV}, putAt cs ns = some ds → ds = ns ++ cs.drop ns.length ∧ ns.length ≤ cs.length
  | cs, [], ds, h => by simp [putAt] at h; simp [h]
  | c :: cs, n :: ns, ds, h => by
    simp only [putAt, Option.map_eq_some_iff] at h
    obtain ⟨d, h1, rfl⟩ := h
    have := putAt_eq h1
    simp [this.1, this.2]
  | [], n :: ns, ds, h => by simp [putAt] at h
theorem spl_eq : ∀ {k : Nat} {cs ns ds : List AV}, spl k cs ns = some ds → ds = cs.take k ++ ns ++ cs.drop (k + ns.length) ∧ k + ns.length ≤ cs.length
  | 0, cs, ns, ds, h => by have := putAt_eq h; simp [this.1, this.2]
  | k + 1, c :: cs, ns, ds, h => by
    simp only [spl, Option.map_eq_some_iff] at h
    obtain ⟨d, h1, rfl⟩ := h
    obtain ⟨h2, h3⟩ := spl_eq h1
    refine ⟨?_, by simp; omega⟩
    rw [h2, show k + 1 + ns.length = k + ns.length + 1 by omega]
    simp
  | k + 1, [], ns, ds, h => by simp [spl] at h

/-- The object behind a pointer, with new cells. -/
def stv (σ : List AO) (ns : List AV) : AV → Option (Nat × AO)
  | .ptr p off => match σ[p]? with
    | some (.box cs) => (spl off cs ns).map fun ds => (p, .box ds)
    | _ => none
  | .pel p g i => match σ[p]? with
    | some (.arr sz g' cs) => if g = g' then (spl i cs ns).map fun ds => (p, .arr sz g ds) else none
    | _ => none
  | _ => none

theorem run_storeVar {w : World} {T : TypeId} {b off n : Nat} {us vs : List Value} {T' : TypeId} {v : Value} (hz : ∀ w, (Go.sizeOf T).run P w = Result.ok n w) (hv : v.cells.toList = us) (hn : us.length = n)
    (hb : w.heap[b]? = some (.cells vs.toArray T' (0, 0))) (hfit : off + n ≤ vs.length) (h1 : ∀ u ∈ us, u.oneCell' = true) :
    (storeVar T ⟨b, off, none⟩ v).run P w = .ok () (w.setRow b (vs.take off ++ us ++ vs.drop (off + n)).toArray) := by
  have hs : v.cells.size = n := by rw [← hn, ← hv]; simp
  have h2 := run_storeCells_at P b off T' us 0 vs.toArray w hb (by simp; omega) h1
  simp only [Nat.add_zero] at h2
  simp only [storeVar, Sem.run_bind, hz, Result.andThen_ok, hs, ne_eq, not_true_eq_false, if_false, hv, Sem.run_ite]
  rw [h2]
  simp [hn]

theorem op_store {T : TypeId} {x y : Operand} {n p : Nat} {O : AO} (ho : o.op = .store T x y) (hz : ∀ w, (Go.sizeOf T).run P w = Result.ok n w) (hn : (opv e y).cells.length = n)
    (h1 : ones (opv e y).cells = true) (hx : stv σ (opv e y).cells (opv e x) = some (p, O)) (hn0 : n ≠ 0) : AOp P σ e o .any (σ.set p O) := by
  intro s a hs g hv K Q hk _
  subst hs
  obtain ⟨us, hu, hpw, hone⟩ := (hv y (by simp [ho, Op.operands])).cells h1
  have hlen : us.length = n := by rw [hpw.1, hn]
  have hvx := hv x (by simp [ho, Op.operands])
  unfold stv at hx
  split at hx
  · rename_i q off heq
    rw [heq] at hvx
    split at hx
    · rename_i cs hs
      simp only [Option.map_eq_some_iff, Prod.mk.injEq] at hx
      obtain ⟨ds, hd, rfl, rfl⟩ := hx
      obtain ⟨rfl, hfit⟩ := spl_eq hd
      have hlive : s.live q := by unfold CS.live; rw [hs]; trivial
      obtain ⟨_, vs, T', hb, hp⟩ := g.rep hs hlive
      have hp : PW s cs vs := hp
      have hnew : PW s (cs.take off ++ (opv e y).cells ++ cs.drop (off + (opv e y).cells.length)) (vs.take off ++ us ++ vs.drop (off + n)) := by
        rw [hn]; exact ((hp.take off).append hpw).append (hp.drop _)
      obtain ⟨s', e1, e2, g', x', _⟩ := g.setObj hs hlive (o' := .box _) (.box _ _ (by have := hnew.1; simp [hn] at this ⊢; omega)) trivial hnew
      have hrun := run_storeVar (P := P) (w := s.w) (off := off) hz hu hlen hb (by rw [hp.1]; omega) hone
      refine wp_skipv (w' := s'.w) ?_ (hk .any undef s' ⟨rfl, e1⟩ g' x' (.any _))
      rw [e2]
      simp only [execOp, ho, hvx.inv_ptr, Instr.storeAt, Instr.sureAddr, Sem.run_bind, Sem.run_pure, Result.andThen_ok, hrun]
    · cases hx
  · rename_i q gg i heq
    rw [heq] at hvx
    split at hx
    · rename_i sz g' cs hs
      split at hx
      · rename_i eg
        subst eg
        simp only [Option.map_eq_some_iff, Prod.mk.injEq] at hx
        obtain ⟨ds, hd, rfl, rfl⟩ := hx
        obtain ⟨rfl, hfit⟩ := spl_eq hd
        have hlive : s.live q := by
          unfold CS.live; rw [hs]
          intro h0
          rcases g.obj q _ hs with ⟨_, rfl⟩ | ⟨h1, _⟩
          · rw [hn] at hfit; simp at hfit; omega
          · exact h1 h0
        obtain ⟨_, vs, T', hb, h0, h3, h4, hp⟩ := g.rep hs hlive
        have hnew : PW s (cs.take i ++ (opv e y).cells ++ cs.drop (i + (opv e y).cells.length))
            (((vs.take ((s.μ q).base + i) ++ us ++ vs.drop ((s.μ q).base + i + n)).drop (s.μ q).base).take (cs.take i ++ (opv e y).cells ++ cs.drop (i + (opv e y).cells.length)).length) := by
          have k := ((hp.take i).append hpw).append (hp.drop (i + n))
          rw [hn]
          have e1 : ((vs.drop (s.μ q).base).take cs.length).take i ++ us ++ ((vs.drop (s.μ q).base).take cs.length).drop (i + n) =
              ((vs.take ((s.μ q).base + i) ++ us ++ vs.drop ((s.μ q).base + i + n)).drop (s.μ q).base).take (cs.take i ++ (opv e y).cells ++ cs.drop (i + n)).length := by
            apply List.ext_getElem?
            intro j
            simp only [List.getElem?_append, List.getElem?_take, List.getElem?_drop, List.length_append, List.length_take, List.length_drop, hn, hlen]
            by_cases c1 : j < i
            · have : j < cs.length := by omega
              simp only [show min i (min cs.length (vs.length - (s.μ q).base)) = i by omega, show min i cs.length = i by omega, show min ((s.μ q).base + i) vs.length = (s.μ q).base + i by omega]
              simp only [show j < i + n by omega, c1, if_true, this, show j < i + n + (cs.length - (i + n)) by omega, show (s.μ q).base + j < (s.μ q).base + i + n by omega, show (s.μ q).base + j < (s.μ q).base + i by omega]
            · by_cases c2 : j < i + n
              · simp only [show min i (min cs.length (vs.length - (s.μ q).base)) = i by omega, show min i cs.length = i by omega, show min ((s.μ q).base + i) vs.length = (s.μ q).base + i by omega]
                simp only [c2, c1, if_true, if_false, show j < i + n + (cs.length - (i + n)) by omega, show (s.μ q).base + j < (s.μ q).base + i + n by omega, show ¬ (s.μ q).base + j < (s.μ q).base + i by omega]
                congr 1; omega
              · simp only [show min i (min cs.length (vs.length - (s.μ q).base)) = i by omega, show min i cs.length = i by omega, show min ((s.μ q).base + i) vs.length = (s.μ q).base + i by omega]
                by_cases c3 : j < cs.length
                · simp only [c2, if_false, show j < i + n + (cs.length - (i + n)) by omega, if_true, show ¬ (s.μ q).base + j < (s.μ q).base + i + n by omega, show i + n + (j - (i + n)) < cs.length by omega]
                  congr 1; omega
                · simp only [c2, if_false, show ¬ j < i + n + (cs.length - (i + n)) by omega, show ¬ i + n + (j - (i + n)) < cs.length by omega]
          rw [← e1]; exact k
        have hl' : (cs.take i ++ (opv e y).cells ++ cs.drop (i + (opv e y).cells.length)).length = cs.length := by simp [hn]; omega
        obtain ⟨s', e1, e2, g', x', _⟩ := g.setObj hs hlive (o' := .arr sz gg _) (.arr _ _ _ _ _ (Nat.le_refl _) fun _ => hl'.symm) rfl (vs := vs.take ((s.μ q).base + i) ++ us ++ vs.drop ((s.μ q).base + i + n))
          ⟨h0, by simp; omega, by rw [hl']; exact h4, hnew⟩
        have hrun := run_storeVar (P := P) (w := s.w) (off := (s.μ q).base + i) hz hu hlen hb (by omega) hone
        refine wp_skipv (w' := s'.w) ?_ (hk .any undef s' ⟨rfl, e1⟩ g' x' (.any _))
        rw [e2]
        simp only [execOp, ho, hvx.inv_pel hs, Instr.storeAt, Instr.sureAddr, Sem.run_bind, Sem.run_pure, Result.andThen_ok, hrun]
      · cases hx
    · cases hx
  · cases hx
end Lg
