import Derived.Test.YtehjmhgedbfddaaDoorLg22
set_option linter.unusedVariables false
set_option linter.unusedSimpArgs false
set_option linter.unusedSectionVars false
namespace Lg
open Go Go.RowKit
variable [GLay]
variable {P : Program} {N : Nat} {σ : List AO} {e : Env} {Q : QA} {ops : Array Oper} {o : Oper}

theorem ResQ_retN {el : List (Nat × AV)} {l : List AO} {ts : List Nat} {v : AV} {R : Out → List AO → Prop} (h : resA ts ⟨[], el⟩ = v) (hc : closed σ.length σ) (hv : v.lt σ.length) (hR : R (.ret v) σ) : ResQ σ.length ts R .ret ⟨[], el⟩ (σ ++ l) :=
  ⟨rfl, σ.length, Nat.le_refl _, closed_old hc, by rw [h]; exact hv, by rw [h, take_old]; exact hR⟩
theorem ResQ_ret0 {el : List (Nat × AV)} {ts : List Nat} {v : AV} {R : Out → List AO → Prop} (h : resA ts ⟨[], el⟩ = v) (hc : closed σ.length σ) (hv : v.lt σ.length) (hR : R (.ret v) σ) : ResQ σ.length ts R .ret ⟨[], el⟩ σ :=
  ⟨rfl, σ.length, Nat.le_refl _, hc, by rw [h]; exact hv, by rw [h, List.take_length]; exact hR⟩
theorem Ret_of {v v' : AV} (h : v = v') : Ret v' σ (.ret v) σ := ⟨by rw [h], rfl⟩
end Lg
namespace Lg
open Go Go.RowKit
variable [GLay]
variable {P : Program} {N : Nat} {σ : List AO} {e : Env} {Q : QA} {ops : Array Oper} {o : Oper}
/-- Where a struct's fields lie. -/
def Places (P : Program) : List Field → List (Nat × Nat) → Prop
  | [], [] => True
  | f :: fs, q :: qs => f.offset = q.1 ∧ (∀ w, (Go.sizeOf f.type).run P w = Result.ok q.2 w) ∧ Places P fs qs
  | _, _ => False
theorem Places.runL : ∀ {fs : List Field} {qs : List (Nat × Nat)}, Places P fs qs → ∀ w, (fs.mapM fun f => do pure (f.offset, ← Go.sizeOf f.type) : Sem (List (Nat × Nat))).run P w = Result.ok qs w
  | [], [], _, w => by simp
  | f :: fs, q :: qs, ⟨h1, h2, h3⟩, w => by
    simp only [List.mapM_cons, Sem.run_bind, h2, Result.andThen_ok, Sem.run_pure, h1]
    rw [Places.runL h3 w]
    simp
  | [], _ :: _, h, _ => h.elim
  | _ :: _, [], h, _ => h.elim
theorem Places.run {fs : Array Field} {qs : List (Nat × Nat)} (h : Places P fs.toList qs) (w : World) : (fs.mapM fun f => do pure (f.offset, ← Go.sizeOf f.type) : Sem (Array (Nat × Nat))).run P w = Result.ok qs.toArray w := by
  obtain ⟨l⟩ := fs
  rw [List.mapM_toArray]
  have := h.runL w
  simp only [map_eq_pure_bind, Sem.run_bind] at this ⊢
  rw [this]
  simp
theorem op_buildP {T : TypeId} {parts : Array (Nat × Operand)} {fs : Array Field} {z : Value} {cs : List AV} (pls : List (Nat × Nat)) (ho : o.op = .build T parts) (hu : P.underlying T = some (.struct fs))
    (hz : ∀ w, (zeroValue T).run P w = Result.ok z w) (hpls : Places P fs.toList pls)
    (h1 : (parts.toList.all fun q => ones (opv e q.2).cells && (opv e q.2).cells.length == ((pls[q.1]?).map (·.2)).getD 0) = true)
    (hb : bld (fun i : Nat => (pls[i]?).map (·.1)) (z.cells.toList.map ofConst1) e parts.toList = some cs) : AOp P σ e o (.agg cs) σ := op_build pls ho hu hz hpls.run h1 hb
section
variable {el : List (Nat × AV)} {l : List AO} {v v1 v2 v3 v4 : AV} {t1 t2 t3 t4 : Nat} {R : Out → List AO → Prop}
theorem ResQ_1 (h1 : lookO el t1 = some v1) (hc : closed σ.length σ) (hv : v1.lt σ.length) (hR : R (.ret v1) σ) : ResQ σ.length [t1] R .ret ⟨[], el⟩ (σ ++ l) := ResQ_retN (lookO_eq h1) hc hv hR
theorem ResQ_10 (h1 : lookO el t1 = some v1) (hc : closed σ.length σ) (hv : v1.lt σ.length) (hR : R (.ret v1) σ) : ResQ σ.length [t1] R .ret ⟨[], el⟩ σ := ResQ_ret0 (lookO_eq h1) hc hv hR
theorem ResQ_2 (h1 : lookO el t1 = some v1) (h2 : lookO el t2 = some v2) (hc : closed σ.length σ) (hv : (AV.tup [v1, v2]).lt σ.length) (hR : R (.ret (.tup [v1, v2])) σ) : ResQ σ.length [t1, t2] R .ret ⟨[], el⟩ (σ ++ l) :=
  ResQ_retN (by simp [resA, Env.look, lookO_eq h1, lookO_eq h2]) hc hv hR
theorem ResQ_20 (h1 : lookO el t1 = some v1) (h2 : lookO el t2 = some v2) (hc : closed σ.length σ) (hv : (AV.tup [v1, v2]).lt σ.length) (hR : R (.ret (.tup [v1, v2])) σ) : ResQ σ.length [t1, t2] R .ret ⟨[], el⟩ σ :=
  ResQ_ret0 (by simp [resA, Env.look, lookO_eq h1, lookO_eq h2]) hc hv hR
theorem ResQ_3 (h1 : lookO el t1 = some v1) (h2 : lookO el t2 = some v2) (h3 : lookO el t3 = some v3) (hc : closed σ.length σ) (hv : (AV.tup [v1, v2, v3]).lt σ.length) (hR : R (.ret (.tup [v1, v2, v3])) σ) : ResQ σ.length [t1, t2, t3] R .ret ⟨[], el⟩ (σ ++ l) :=
  ResQ_retN (by simp [resA, Env.look, lookO_eq h1, lookO_eq h2, lookO_eq h3]) hc hv hR
theorem ResQ_30 (h1 : lookO el t1 = some v1) (h2 : lookO el t2 = some v2) (h3 : lookO el t3 = some v3) (hc : closed σ.length σ) (hv : (AV.tup [v1, v2, v3]).lt σ.length) (hR : R (.ret (.tup [v1, v2, v3])) σ) : ResQ σ.length [t1, t2, t3] R .ret ⟨[], el⟩ σ :=
  ResQ_ret0 (by simp [resA, Env.look, lookO_eq h1, lookO_eq h2, lookO_eq h3]) hc hv hR
theorem ResQ_4 (h1 : lookO el t1 = some v1) (h2 : lookO el t2 = some v2) (h3 : lookO el t3 = some v3) (h4 : lookO el t4 = some v4) (hc : closed σ.length σ) (hv : (AV.tup [v1, v2, v3, v4]).lt σ.length) (hR : R (.ret (.tup [v1, v2, v3, v4])) σ) : ResQ σ.length [t1, t2, t3, t4] R .ret ⟨[], el⟩ (σ ++ l) :=
  ResQ_retN (by simp [resA, Env.look, lookO_eq h1, lookO_eq h2, lookO_eq h3, lookO_eq h4]) hc hv hR
theorem ResQ_40 (h1 : lookO el t1 = some v1) (h2 : lookO el t2 = some v2) (h3 : lookO el t3 = some v3) (h4 : lookO el t4 = some v4) (hc : closed σ.length σ) (hv : (AV.tup [v1, v2, v3, v4]).lt σ.length) (hR : R (.ret (.tup [v1, v2, v3, v4])) σ) : ResQ σ.length [t1, t2, t3, t4] R .ret ⟨[], el⟩ σ :=
  ResQ_ret0 (by simp [resA, Env.look, lookO_eq h1, lookO_eq h2, lookO_eq h3, lookO_eq h4]) hc hv hR
end
end Lg
namespace Lg
open Go Go.RowKit
variable [GLay]
variable {P : Program} {N : Nat} {σ : List AO} {e : Env} {Q : QA} {ops : Array Oper} {o : Oper}
/-- A string's byte. -/
def bat (b : ByteArray) (i : Nat) : UInt8 := b.data.toList.getD i 0
theorem bat_get {b : ByteArray} {i : Nat} (h : i < b.size) : b.data.toList[i]? = some (bat b i) := by
  have h' : i < b.data.toList.length := by rw [Array.length_toList]; exact h
  rw [bat, List.getD_eq_getElem?_getD, List.getElem?_eq_getElem h']; rfl
theorem brows_at {b : ByteArray} {i : Nat} (h : i < b.size) : (brows b)[i]? = some [.int .u8 (bat b i).toNat] := by
  simp only [brows, List.getElem?_map, bat_get h]; rfl
theorem op_index_strB {T : TypeId} {x y : Operand} {b : ByteArray} {k : IntKind} {n : Int} (ho : o.op = .index T x y) (hu : P.underlying T = some .string) (hx : opv e x = .str b) (hy : opv e y = .int k n)
    (h0 : 0 ≤ n) (h1 : n < b.size) : AOp P σ e o (.int .u8 (bat b n.toNat).toNat) σ :=
  op_index_str ho hu hx hy h0 (bat_get (by omega))
theorem bat_lt (b : ByteArray) (i : Nat) : (bat b i).toNat < 256 := (bat b i).toNat_lt
end Lg
