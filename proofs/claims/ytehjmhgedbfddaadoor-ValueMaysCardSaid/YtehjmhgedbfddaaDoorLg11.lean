import Derived.Test.YtehjmhgedbfddaaDoorLg10
set_option linter.unusedVariables false
set_option linter.unusedSimpArgs false
set_option linter.unusedSectionVars false
namespace Lg
open Go Go.RowKit
variable [GLay]

variable {P : Program} {σ : List AO} {e : Env} {o : Oper}

/-! ### A slice of a slice -/
theorem run_slice_slice {w : World} {T E : TypeId} {sz len cap : Nat} {A : Option Addr} {lo hi : Option Value} {l h : Int} (hu : P.underlying T = some (.slice E)) (hsz : ∀ w, (Go.sizeOf E).run P w = Result.ok sz w)
    (hl : bndC 0 l lo) (hh : bndC len h hi) (h0 : 0 ≤ l) (h1 : l ≤ h) (h2 : h ≤ cap) :
    (Instr.sliceAt T (.slice A len cap) lo hi none).run P w = .ok (.slice (if cap = l.toNat then A else A.map (·.add (l.toNat * sz))) (h.toNat - l.toNat) (cap - l.toNat)) w := by
  have h0h : 0 ≤ h := by omega
  cases lo with
  | none =>
    have : l = 0 := hl
    subst this
    cases hi with
    | none =>
      have : h = len := hh
      subst this
      simp [Instr.sliceAt, Instr.slice, Instr.sliceBounds, run_underlying hu, hsz]
    | some y =>
      obtain ⟨k, rfl⟩ := hh
      simp [Instr.sliceAt, Instr.slice, Instr.sliceBounds, Instr.sliceBound, asIntOf, run_underlying hu, hsz, h0h, h2]
  | some z =>
    obtain ⟨kl, rfl⟩ := hl
    cases hi with
    | none =>
      have : h = len := hh
      subst this
      have : l ≤ (len : Int) := h1
      simp [Instr.sliceAt, Instr.slice, Instr.sliceBounds, Instr.sliceBound, asIntOf, run_underlying hu, hsz, h0, this]
    | some y =>
      obtain ⟨k, rfl⟩ := hh
      simp [Instr.sliceAt, Instr.slice, Instr.sliceBounds, Instr.sliceBound, asIntOf, run_underlying hu, hsz, h0h, h2, h0]
      intro hm
      omega

theorem op_sliceSl {T E : TypeId} {x : Operand} {lo hi : Option Operand} {sz : Nat} {f : Bool} {es : List (List AV)} (l h : Int) (ho : o.op = .slice T x lo hi none) (hu : P.underlying T = some (.slice E))
    (hsz : ∀ w, (Go.sizeOf E).run P w = Result.ok sz w) (hx : opv e x = .sl f sz es)
    (hl : bnd e 0 l lo) (hh : bnd e (es.length : Nat) h hi) (h0 : 0 ≤ l) (h1 : l ≤ h) (h2 : h ≤ es.length) :
    AOp P σ e o (.sl false sz ((es.drop l.toNat).take (h.toNat - l.toNat))) σ :=
  .of_run fun s a _ _ hv => by
    have hxv := hx ▸ hv x (by simp [ho, Op.operands])
    have hl' := hl.ev (s := s) (a := a) (fun y hy => hv y (by subst hy; simp [ho, Op.operands]))
    have hh' := hh.ev (s := s) (a := a) (fun y hy => hv y (by subst hy; simp [ho, Op.operands]))
    rcases hxv.inv_sl with ⟨ad, h3, rfl⟩ | ⟨b, off, cap, vs, h3, hok, hel, hc, hp, hcap, _⟩
    · have hl0 : l = 0 := by simp at h2; omega
      have hh0 : h = 0 := by simp at h2; omega
      subst hl0; subst hh0
      refine ⟨_, by simp only [execOp, ho, h3, Sem.run_bind, Option.map_none]; rw [run_slice_slice (len := 0) (cap := 0) hu hsz hl' hh' h0 h1 (by simp)]; rfl, ?_⟩
      simp
      exact .sl0 false sz ad
    · refine ⟨_, by simp only [execOp, ho, h3, Sem.run_bind, Option.map_none]; rw [run_slice_slice (cap := cap) hu hsz hl' hh' h0 h1 (by omega)]; rfl, ?_⟩
      by_cases hcl : cap = l.toNat
      · rw [if_pos hcl]
        have he : (es.drop l.toNat).take (h.toNat - l.toNat) = [] := by
          have : es.drop l.toNat = [] := List.drop_eq_nil_of_le (by omega)
          rw [this]; simp
        have hlen : h.toNat - l.toNat = 0 := by omega
        rw [he, hlen]
        exact .sl false sz [] b off (cap - l.toNat) [] (.inl rfl) (by simp) (by simp) (by simp) (by simp) (by simp) (by simp)
      · rw [if_neg hcl]
        simp only [Option.map_some, add_none]
        have hr : ∀ r ∈ (es.drop l.toNat).take (h.toNat - l.toNat), r.length = sz := fun r hr => hel r (List.mem_of_mem_drop (List.mem_of_mem_take hr))
        have hlen : ((es.drop l.toNat).take (h.toNat - l.toNat)).length = h.toNat - l.toNat := by simp; omega
        have hfl : ((es.drop l.toNat).take (h.toNat - l.toNat)).flatten = (es.flatten.drop (l.toNat * sz)).take ((h.toNat - l.toNat) * sz) := by
          rw [flatten_take (fun r hr => hel r (List.mem_of_mem_drop hr)) _ (by simp; omega), flatten_drop hel _ (by omega)]
        have hp' : PW s ((es.drop l.toNat).take (h.toNat - l.toNat)).flatten ((vs.drop (l.toNat * sz)).take ((h.toNat - l.toNat) * sz)) := by
          rw [hfl]; exact (hp.drop _).take _
        have := V.sl (s := s) false sz ((es.drop l.toNat).take (h.toNat - l.toNat)) b (off + l.toNat * sz) (cap - l.toNat) _ (by
            rcases hok with rfl | hok
            · exact .inl (by simp)
            · exact .inr hok) hr hp'.1 (fun i v hi => by
            rw [List.getElem?_take] at hi
            split at hi
            · rw [List.getElem?_drop] at hi; rw [Nat.add_assoc]; exact hc _ _ hi
            · cases hi) hp'.2 (by rw [hlen]; omega) (by simp)
        rw [hlen] at this
        exact this
theorem op_sliceArr {T E : TypeId} {x : Operand} {lo hi : Option Operand} {sz p g off len : Nat} {cs : List AV} (l h : Int) (ho : o.op = .slice T x lo hi none) (hu : P.underlying T = some (.slice E))
    (hsz : ∀ w, (Go.sizeOf E).run P w = Result.ok sz w) (hx : opv e x = .arr p g sz off len) (hσ : σ[p]? = some (.arr sz g cs))
    (hl : bnd e 0 l lo) (hh : bnd e (len : Nat) h hi) (h0 : 0 ≤ l) (h1 : l ≤ h) (h2 : h ≤ len) :
    AOp P σ e o (.arr p g sz (off + l.toNat) (h.toNat - l.toNat)) σ :=
  .of_run fun s a hs _ hv => by
    subst hs
    have hxv := hx ▸ hv x (by simp [ho, Op.operands])
    have hl' := hl.ev (s := s) (a := a) (fun y hy => hv y (by subst hy; simp [ho, Op.operands]))
    have hh' := hh.ev (s := s) (a := a) (fun y hy => hv y (by subst hy; simp [ho, Op.operands]))
    obtain ⟨_, ⟨ad, h3, rfl⟩ | ⟨cap, h3, h4, h5⟩⟩ := hxv.inv_arr hσ
    · have hl0 : l = 0 := by simp at h2; omega
      have hh0 : h = 0 := by simp at h2; omega
      subst hl0; subst hh0
      refine ⟨_, by simp only [execOp, ho, h3, Sem.run_bind, Option.map_none]; rw [run_slice_slice (len := 0) (cap := 0) hu hsz hl' hh' h0 h1 (by simp)]; rfl, ?_⟩
      refine .arr p g sz _ _ _ rfl ?_
      unfold ArrAt; rw [hσ]
      exact ⟨Nat.le_refl _, fun _ => ⟨rfl, .inl ⟨_, by simp; rfl, by simp⟩⟩⟩
    · refine ⟨_, by simp only [execOp, ho, h3, Sem.run_bind, Option.map_none]; rw [run_slice_slice (cap := cap) hu hsz hl' hh' h0 h1 (by omega)]; rfl, ?_⟩
      refine .arr p g sz _ _ _ rfl ?_
      unfold ArrAt; rw [hσ]
      refine ⟨Nat.le_refl _, fun _ => ⟨rfl, ?_⟩⟩
      by_cases hcl : cap = l.toNat
      · have e1 : h.toNat - l.toNat = 0 := by omega
        have e2 : cap - l.toNat = 0 := by omega
        rw [e1, e2]
        exact .inl ⟨_, rfl, rfl⟩
      · refine .inr ⟨cap - l.toNat, ?_, by omega, ?_⟩
        · rw [if_neg hcl]; simp only [Option.map_some, add_none]
          rw [Nat.add_mul, Nat.add_assoc]
        · rw [show off + l.toNat + (cap - l.toNat) = off + cap by omega]; exact h5
theorem op_sliceNils {T E : TypeId} {x : Operand} {lo hi : Option Operand} {sz : Nat} (ho : o.op = .slice T x lo hi none) (hu : P.underlying T = some (.slice E))
    (hsz : ∀ w, (Go.sizeOf E).run P w = Result.ok sz w) (hx : opv e x = .nils) (hl : bnd e 0 0 lo) (hh : bnd e (0 : Nat) 0 hi) : AOp P σ e o .nils σ :=
  .of_run fun s a _ _ hv => by
    have h3 := (hx ▸ hv x (by simp [ho, Op.operands])).inv_nils
    have hl' := hl.ev (s := s) (a := a) (fun y hy => hv y (by subst hy; simp [ho, Op.operands]))
    have hh' := hh.ev (s := s) (a := a) (fun y hy => hv y (by subst hy; simp [ho, Op.operands]))
    refine ⟨_, by simp only [execOp, ho, h3, Sem.run_bind, Option.map_none]; rw [run_slice_slice (cap := 0) hu hsz hl' hh' (by omega) (by omega) (by simp)]; rfl, ?_⟩
    simp
    exact .nils
/-- 's[:0:0]': nothing, with no room. -/
theorem op_slice00 {T E : TypeId} {x : Operand} {y z : Operand} {sz : Nat} {f : Bool} {es : List (List AV)} (ho : o.op = .slice T x none (some y) (some z)) (hu : P.underlying T = some (.slice E))
    (hsz : ∀ w, (Go.sizeOf E).run P w = Result.ok sz w) (hx : opv e x = .sl f sz es) (hy : opv e y = .int .i64 0) (hz : opv e z = .int .i64 0) : AOp P σ e o (.sl true sz []) σ :=
  .of_run fun s a _ _ hv => by
    have hxv := hx ▸ hv x (by simp [ho, Op.operands])
    have h1 := (hy ▸ hv y (by simp [ho, Op.operands])).inv_int
    have h2 := (hz ▸ hv z (by simp [ho, Op.operands])).inv_int
    have hrun : ∀ (A : Option Addr) (m c : Nat), (Instr.sliceAt T (.slice A m c) none (some (.int .i64 0)) (some (.int .i64 0))).run P s.w = .ok (.slice A 0 0) s.w := fun A m c => by
      simp [Instr.sliceAt, Instr.slice, Instr.sliceBounds, Instr.sliceBound, asIntOf, run_underlying hu, hsz]
    rcases hxv.inv_sl with ⟨ad, h3, rfl⟩ | ⟨b, off, cap, vs, h3, _⟩
    · exact ⟨_, by simp only [execOp, ho, h3, h1, h2, Sem.run_bind, Option.map_none, Option.map_some]; rw [hrun]; rfl, .sl0 true sz ad⟩
    · exact ⟨_, by simp only [execOp, ho, h3, h1, h2, Sem.run_bind, Option.map_none, Option.map_some]; rw [hrun]; rfl,
        .sl true sz [] b off 0 [] (.inl rfl) (by simp) (by simp) (by simp) (by simp) (by simp) (by simp)⟩
end Lg
