import Derived.Test.YtehjmhgedbfddaaDoorLg5
set_option linter.unusedVariables false
set_option linter.unusedSimpArgs false
set_option linter.unusedSectionVars false
namespace Lg
open Go Go.RowKit
variable [GLay]

variable {P : Program} {σ : List AO} {e : Env} {o : Oper}

theorem add_none (b off n : Nat) : (⟨b, off, none⟩ : Addr).add n = ⟨b, off + n, none⟩ := by unfold Addr.add; split <;> simp_all

/-! ### Addresses -/
/-- The field behind a pointer. -/
def offv (k : Nat) : AV → Option AV
  | .ptr p off => some (.ptr p (off + k))
  | .pel p g i => some (.pel p g (i + k))
  | .pp cs => some (.pp (cs.drop k))
  | _ => none
theorem V.offv {s : CS} {k : Nat} {a b : AV} {c : Value} (h : V s a c) (hv : offv k a = some b) :
    ∃ blk off, c = .pointer (some ⟨blk, off, none⟩) ∧ V s b (.pointer (some ⟨blk, off + k, none⟩)) ∨ ∃ p g i, a = .pel p g i := by
  cases h <;> simp [Lg.offv] at hv
  · subst hv
    exact ⟨_, _, .inl ⟨rfl, .ptr _ _ _ (by assumption) (by assumption)⟩⟩
  · exact ⟨0, 0, .inr ⟨_, _, _, rfl⟩⟩
  · subst hv
    rename_i cs b off vs hok hl hc hv
    refine ⟨_, _, .inl ⟨rfl, ?_⟩⟩
    refine .pp (cs.drop k) b (off + k) (vs.drop k) hok (by simp [hl]) (fun i v e => ?_) (fun i c v e1 e2 => ?_)
    · rw [List.getElem?_drop] at e
      rw [Nat.add_assoc]
      exact hc _ _ e
    · rw [List.getElem?_drop] at e1 e2
      exact hv _ _ _ e1 e2
/-- Is the array that a value names still of its generation? -/
def fresh (σ : List AO) : AV → Prop
  | .pel p g _ => ∃ sz cs, σ[p]? = some (.arr sz g cs)
  | .arr p g _ _ _ => ∃ sz cs, σ[p]? = some (.arr sz g cs)
  | _ => True
theorem V.offv' {s : CS} {k : Nat} {a b : AV} {c : Value} (h : V s a c) (hv : Lg.offv k a = some b) (hf : fresh s.σ a) :
    ∃ blk off, c = .pointer (some ⟨blk, off, none⟩) ∧ V s b (.pointer (some ⟨blk, off + k, none⟩)) := by
  obtain ⟨blk, off, h1 | ⟨p, g, i, rfl⟩⟩ := h.offv hv
  · exact ⟨blk, off, h1⟩
  · obtain ⟨sz, cs, hs⟩ := hf
    have h1 := h.inv_pel hs
    simp [Lg.offv] at hv
    subst hv
    refine ⟨_, _, h1, .pel p g (i + k) _ rfl ?_⟩
    unfold ArrAt
    rw [hs]
    exact ⟨Nat.le_refl _, fun _ => by rw [Nat.add_assoc]⟩
theorem op_fieldAddr {T : TypeId} {x : Operand} {f n : Nat} {fs : Array Field} {fd : Field} {v : AV} (ho : o.op = .fieldAddr T x f) (hu : P.underlying T = some (.struct fs)) (hf : fs[f]? = some fd)
    (hz : ∀ w, (Go.sizeOf fd.type).run P w = Result.ok n w) (hn : n ≠ 0) (hx : offv fd.offset (opv e x) = some v) (hfr : fresh σ (opv e x)) : AOp P σ e o v σ :=
  .of_run fun s a hs _ hv => by
    subst hs
    obtain ⟨b, off, h1, h2⟩ := (hv x (by simp [ho, Op.operands])).offv' hx hfr
    refine ⟨_, ?_, h2⟩
    simp [execOp, ho, h1, Instr.fieldAt, run_underlying hu, hf, Instr.sureAddr, fieldPlace, hz, hn, add_none]

/-! ### Loads -/
/-- The first n, if there are so many. -/
def tk : Nat → List AV → Option (List AV)
  | 0, _ => some []
  | n + 1, c :: cs => (tk n cs).map (c :: ·)
  | _ + 1, [] => none
theorem tk_eq : ∀ {n : Nat} {cs ds : List AV}, tk n cs = some ds → ds = cs.take n ∧ n ≤ cs.length
  | 0, cs, ds, h => by simp [tk] at h; simp [h]
  | n + 1, c :: cs, ds, h => by
    simp only [tk, Option.map_eq_some_iff] at h
    obtain ⟨d, h1, rfl⟩ := h
    have := tk_eq h1
    simp [this.1, this.2]
  | n + 1, [], ds, h => by simp [tk] at h
def ldv (σ : List AO) (n : Nat) : AV → Option (List AV)
  | .ptr p off => match σ[p]? with
    | some (.box cs) => tk n (cs.drop off)
    | _ => none
  | .pel p g i => match σ[p]? with
    | some (.arr _ g' cs) => if g = g' then tk n (cs.drop i) else none
    | _ => none
  | .pp cs => tk n cs
  | _ => none

theorem cells_get {w : World} {b : Nat} {vs : List Value} {T : TypeId} {fr : Nat × Nat} (h : w.heap[b]? = some (.cells vs.toArray T fr)) (i : Nat) : w.cell? ⟨b, i, none⟩ = vs[i]? := by
  simp [World.cell?, h]
/-- Cells that can be read. -/
theorem V.load {s : CS} (g : Good s) {a : AV} {c : Value} {n : Nat} {cs : List AV} (h : V s a c) (hl : ldv s.σ n a = some cs) :
    ∃ b off vs, c = .pointer (some ⟨b, off, none⟩) ∧ PW s cs vs ∧ vs.length = n ∧ ∀ (i : Nat) (v : Value), vs[i]? = some v → s.w.cell? ⟨b, off + i, none⟩ = some v := by
  unfold ldv at hl
  split at hl
  · rename_i p off
    split at hl
    · rename_i cs0 hs
      obtain ⟨rfl, hle⟩ := tk_eq hl
      obtain ⟨_, vs, T, hb, hp⟩ := g.obj p _ hs
      refine ⟨_, _, (vs.drop off).take n, h.inv_ptr, (hp.drop off).take n, ?_, fun i v e => ?_⟩
      · have := ((hp.drop off).take n).1
        rw [this]; simp at hle ⊢; omega
      · rw [List.getElem?_take] at e
        split at e
        · rw [List.getElem?_drop] at e
          rw [cells_get hb]; exact e
        · cases e
    · cases hl
  · rename_i p gg i0
    split at hl
    · rename_i sz g' cs0 hs
      split at hl
      · rename_i e0
        subst e0
        obtain ⟨rfl, hle⟩ := tk_eq hl
        by_cases hn : n = 0
        · subst hn
          exact ⟨_, _, [], h.inv_pel hs, by simpa using PW.nil, rfl, fun i v e => by simp at e⟩
        have hlive : s.live p := by
          unfold CS.live; rw [hs]
          intro h0
          rcases g.obj p _ hs with ⟨_, rfl⟩ | ⟨h1, _⟩
          · simp at hle; omega
          · exact h1 h0
        obtain ⟨_, vs, T, hb, _, h3, h4, hp⟩ := g.rep hs hlive
        simp at hle
        refine ⟨_, _, ((vs.drop ((s.μ p).base + i0)).take n), h.inv_pel hs, ?_, by simp; omega, fun i v e => ?_⟩
        · have h5 := (hp.drop i0).take n
          rw [List.drop_take, List.take_take, List.drop_drop, Nat.min_eq_left (by omega)] at h5
          exact h5
        · rw [List.getElem?_take] at e
          split at e
          · rw [List.getElem?_drop, Nat.add_assoc] at e
            rw [cells_get hb, Nat.add_assoc]; exact e
          · cases e
      · cases hl
    · cases hl
  · rename_i cs0
    obtain ⟨rfl, hle⟩ := tk_eq hl
    obtain ⟨b, off, vs, h1, _, hc, hp⟩ := h.inv_pp
    refine ⟨b, off, vs.take n, h1, hp.take n, by simp [hp.1]; omega, fun i v e => ?_⟩
    rw [List.getElem?_take] at e
    split at e
    · exact hc i v e
    · cases e
  · cases hl

theorem op_load1 {T : TypeId} {x : Operand} {c : AV} (ho : o.op = .load T x) (ha : ∀ w, (isAgg T).run P w = .ok false w) (hx : ldv σ 1 (opv e x) = some [c]) : AOp P σ e o c σ :=
  .of_run fun s a hs g hv => by
    subst hs
    obtain ⟨b, off, vs, h1, hp, _, hc⟩ := (hv x (by simp [ho, Op.operands])).load g hx
    obtain ⟨v, vs', rfl, hv1, _⟩ := hp.inv_cons
    have := hc 0 v rfl
    refine ⟨v, ?_, hv1⟩
    simp only [Nat.add_zero] at this
    simp [execOp, ho, h1, Instr.loadAt, Instr.sureAddr, loadVar, ha, this]
theorem op_loadK {T : TypeId} {x : Operand} {n : Nat} {cs : List AV} (ho : o.op = .load T x) (ha : ∀ w, (isAgg T).run P w = .ok true w) (hz : ∀ w, (Go.sizeOf T).run P w = Result.ok n w)
    (hx : ldv σ n (opv e x) = some cs) : AOp P σ e o (.agg cs) σ :=
  .of_run fun s a hs g hv => by
    subst hs
    obtain ⟨b, off, vs, h1, hp, hl, hc⟩ := (hv x (by simp [ho, Op.operands])).load g hx
    refine ⟨.agg vs.toArray, ?_, .agg _ _ hp.1 hp.2⟩
    have := run_loadCells_list (P := P) s.w ⟨b, off, none⟩ vs (fun j v e => by rw [add_none]; exact hc j v e)
    rw [hl] at this
    simp [execOp, ho, h1, Instr.loadAt, Instr.sureAddr, loadVar, ha, hz, this]
end Lg
