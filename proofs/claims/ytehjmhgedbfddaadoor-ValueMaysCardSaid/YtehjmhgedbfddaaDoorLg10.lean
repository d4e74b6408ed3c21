import Derived.Test.YtehjmhgedbfddaaDoorLg9
set_option linter.unusedVariables false
set_option linter.unusedSimpArgs false
set_option linter.unusedSectionVars false
namespace Lg
open Go Go.RowKit
variable [GLay]

variable {P : Program} {σ : List AO} {e : Env} {o : Oper}

/-! ### Slices that are read -/
theorem flatten_get {α : Type} {es : List (List α)} {sz : Nat} (h : ∀ r ∈ es, r.length = sz) {i : Nat} {r : List α} (hi : es[i]? = some r) (j : Nat) (hj : j < sz) : es.flatten[i * sz + j]? = r[j]? := by
  induction es generalizing i with
  | nil => simp at hi
  | cons a t ih =>
    have ha := h a (by simp)
    simp only [List.flatten_cons, List.getElem?_append, ha]
    cases i with
    | zero => simp at hi; subst hi; simp [hj]
    | succ i =>
      simp at hi
      rw [if_neg (by rw [Nat.add_mul]; omega)]
      have := ih (fun r hr => h r (by simp [hr])) hi
      rw [← this]; congr 1; rw [Nat.add_mul]; omega
theorem flatten_len {α : Type} {es : List (List α)} {sz : Nat} (h : ∀ r ∈ es, r.length = sz) : es.flatten.length = es.length * sz := by
  induction es with
  | nil => simp
  | cons a t ih => simp only [List.flatten_cons, List.length_append, List.length_cons, h a (by simp), ih (fun r hr => h r (by simp [hr]))]; rw [Nat.add_mul]; omega
theorem flatten_drop {α : Type} {es : List (List α)} {sz : Nat} (h : ∀ r ∈ es, r.length = sz) (k : Nat) (hk : k ≤ es.length) : (es.drop k).flatten = es.flatten.drop (k * sz) := by
  induction es generalizing k with
  | nil => simp
  | cons a t ih =>
    cases k with
    | zero => simp
    | succ k =>
      simp only [List.drop_succ_cons, List.flatten_cons]
      rw [ih (fun r hr => h r (by simp [hr])) k (by simpa using hk), List.drop_append, h a (by simp)]
      have : List.drop ((k + 1) * sz) a = [] := List.drop_eq_nil_of_le (by rw [h a (by simp), Nat.add_mul]; omega)
      rw [this, List.nil_append]; congr 1; rw [Nat.add_mul]; omega
theorem flatten_take {α : Type} {es : List (List α)} {sz : Nat} (h : ∀ r ∈ es, r.length = sz) (k : Nat) (hk : k ≤ es.length) : (es.take k).flatten = es.flatten.take (k * sz) := by
  induction es generalizing k with
  | nil => simp
  | cons a t ih =>
    cases k with
    | zero => simp
    | succ k =>
      simp only [List.take_succ_cons, List.flatten_cons]
      rw [ih (fun r hr => h r (by simp [hr])) k (by simpa using hk), List.take_append, h a (by simp)]
      have : List.take ((k + 1) * sz) a = a := List.take_of_length_le (by rw [h a (by simp), Nat.add_mul]; omega)
      rw [this]; congr 2; rw [Nat.add_mul]; omega

/-- What a slice that is read holds. -/
theorem V.inv_sl {s : CS} {f : Bool} {sz : Nat} {es : List (List AV)} {c : Value} (h : V s (.sl f sz es) c) :
    (∃ ad, c = .slice ad 0 0 ∧ es = []) ∨ ∃ b off cap vs, c = .slice (some ⟨b, off, none⟩) es.length cap ∧ (es = [] ∨ s.ok b) ∧ (∀ r ∈ es, r.length = sz) ∧
      (∀ (i : Nat) (v : Value), vs[i]? = some v → s.w.cell? ⟨b, off + i, none⟩ = some v) ∧ PW s es.flatten vs ∧ es.length ≤ cap ∧ (f = true → cap = es.length) := by
  cases h with
  | sl _ _ _ b off cap vs hok hsz hl hc hv hcap hf => exact .inr ⟨b, off, cap, vs, rfl, hok, hsz, hc, ⟨hl, hv⟩, hcap, hf⟩
  | sl0 _ _ ad => exact .inl ⟨ad, rfl, rfl⟩

theorem run_indexAt_slice {w : World} {T E : TypeId} {sz len cap b off : Nat} {k : IntKind} {n : Int} (hu : P.underlying T = some (.slice E)) (hsz : ∀ w, (Go.sizeOf E).run P w = Result.ok sz w) (h0 : 0 ≤ n) (h1 : n < len) :
    (Instr.indexAt T (.slice (some ⟨b, off, none⟩) len cap) (.int k n)).run P w = .ok (.pointer (some ⟨b, off + n.toNat * sz, none⟩)) w := by
  simp only [Instr.indexAt, asIntOf, Sem.run_bind, Sem.run_pure, Result.andThen_ok, run_underlying hu]
  rw [if_pos ⟨h0, h1⟩]
  simp [hsz, add_none]

theorem op_indexAddr {T E : TypeId} {x y : Operand} {sz : Nat} {k : IntKind} {n : Int} {f : Bool} {es : List (List AV)} {r : List AV} (ho : o.op = .indexAddr T x y) (hu : P.underlying T = some (.slice E))
    (hsz : ∀ w, (Go.sizeOf E).run P w = Result.ok sz w) (hx : opv e x = .sl f sz es) (hy : opv e y = .int k n) (h0 : 0 ≤ n) (hr : es[n.toNat]? = some r) : AOp P σ e o (.pp r) σ :=
  .of_run fun s a _ _ hv => by
    have h1 := hx ▸ hv x (by simp [ho, Op.operands])
    have h2 := (hy ▸ hv y (by simp [ho, Op.operands])).inv_int
    have hlt := (List.getElem?_eq_some_iff.1 hr).1
    rcases h1.inv_sl with ⟨_, _, rfl⟩ | ⟨b, off, cap, vs, h3, hok, hl, hc, hp, hcap, _⟩
    · simp at hlt
    · have hok : s.ok b := hok.resolve_left (fun e => by rw [e] at hlt; simp at hlt)
      have hrl := hl r (List.mem_of_getElem? hr)
      refine ⟨_, by simp only [execOp, ho, h3, h2, Sem.run_bind]; rw [run_indexAt_slice (cap := cap) hu hsz h0 (by omega)]; rfl, ?_⟩
      refine .pp r b (off + n.toNat * sz) ((vs.drop (n.toNat * sz)).take sz) hok ?_ (fun i v hi => ?_) (fun i c v hc1 hv1 => ?_)
      · simp only [List.length_take, List.length_drop, hp.1, flatten_len hl, hrl]
        have : (n.toNat + 1) * sz ≤ es.length * sz := Nat.mul_le_mul_right _ hlt
        rw [Nat.add_mul] at this; omega
      · rw [List.getElem?_take] at hi
        split at hi
        · rw [List.getElem?_drop] at hi; rw [Nat.add_assoc]; exact hc _ _ hi
        · cases hi
      · rw [List.getElem?_take] at hv1
        split at hv1
        · rename_i hlt2
          rw [List.getElem?_drop] at hv1
          exact hp.2 _ c v (by rw [flatten_get hl hr i hlt2]; exact hc1) hv1
        · cases hv1
theorem op_indexAddrArr {T E : TypeId} {x y : Operand} {sz p g off len : Nat} {k : IntKind} {n : Int} {cs : List AV} (ho : o.op = .indexAddr T x y) (hu : P.underlying T = some (.slice E))
    (hsz : ∀ w, (Go.sizeOf E).run P w = Result.ok sz w) (hx : opv e x = .arr p g sz off len) (hσ : σ[p]? = some (.arr sz g cs)) (hy : opv e y = .int k n) (h0 : 0 ≤ n) (h1 : n < len) :
    AOp P σ e o (.pel p g ((off + n.toNat) * sz)) σ :=
  .of_run fun s a hs _ hv => by
    subst hs
    have h2 := (hy ▸ hv y (by simp [ho, Op.operands])).inv_int
    obtain ⟨_, ⟨ad, _, h0'⟩ | ⟨cap, h3, h4, h5⟩⟩ := (hx ▸ hv x (by simp [ho, Op.operands])).inv_arr hσ
    · omega
    · refine ⟨_, by simp only [execOp, ho, h3, h2, Sem.run_bind]; rw [run_indexAt_slice (cap := cap) hu hsz h0 h1]; rfl, .pel p g _ _ rfl ?_⟩
      unfold ArrAt; rw [hσ]
      exact ⟨Nat.le_refl _, fun _ => by rw [Nat.add_mul, Nat.add_assoc]⟩

/-! ### len, index, strings -/
def lenv : AV → Option Int
  | .str s => some (s.size : Int)
  | .sl _ _ es => some (es.length : Int)
  | .nils => some 0
  | .arr _ _ _ _ len => some (len : Int)
  | _ => none
theorem op_lenStr {T : TypeId} {x : Operand} {b : ByteArray} {c : Array TypeId} (ho : o.op = .call { callee := .builtin .len, args := #[x], argTypes := c }) (hc : c[0]? = some T) (hu : P.underlying T = some .string)
    (hx : opv e x = .str b) : AOp P σ e o (.int .i64 b.size) σ :=
  .of_run fun s a _ _ hv => by
    have h1 := (hx ▸ hv x (by simp [ho, Op.operands, Call.operands])).inv_str
    exact ⟨.int .i64 b.size, by simp [execOp, ho, resolve, invoke, builtin, h1, Builtin.len_, hc, run_underlying hu, goInt], .int _ _⟩
theorem op_lenSl {T E : TypeId} {x : Operand} {n : Int} {c : Array TypeId} (ho : o.op = .call { callee := .builtin .len, args := #[x], argTypes := c }) (hc : c[0]? = some T) (hu : P.underlying T = some (.slice E))
    (hx : lenv (opv e x) = some n) (hns : ∀ b, opv e x ≠ .str b) (hfr : fresh σ (opv e x)) : AOp P σ e o (.int .i64 n) σ :=
  .of_run fun s a hs _ hv => by
    subst hs
    have h1 := hv x (by simp [ho, Op.operands, Call.operands])
    have key : ∀ c' : Value, a.eval x = c' → (∃ A m k, c' = .slice A m k ∧ n = m) → (execOp a.eval o).run P s.w = .ok (.value (.int .i64 n)) s.w := fun c' hc' h => by
      obtain ⟨A, m, k, rfl, rfl⟩ := h
      simp [execOp, ho, resolve, invoke, builtin, hc', Builtin.len_, hc, run_underlying hu, goInt]
    refine ⟨_, key _ rfl ?_, .int _ _⟩
    generalize hq : opv e x = q at *
    cases q <;> simp only [lenv, Option.some.injEq, reduceCtorEq] at hx
    · exact absurd rfl (hns _)
    · exact ⟨_, _, _, h1.inv_nils, by simpa using hx.symm⟩
    · rcases h1.inv_sl with ⟨ad, h2, h3⟩ | ⟨b, off, cap, vs, h2, _⟩
      · exact ⟨_, _, _, h2, by rw [h3] at hx; simpa using hx.symm⟩
      · exact ⟨_, _, _, h2, hx.symm⟩
    · obtain ⟨sz, cs, hs⟩ := hfr
      obtain ⟨_, ⟨ad, h2, h3⟩ | ⟨cap, h2, _⟩⟩ := h1.inv_arr hs
      · exact ⟨_, _, _, h2, by rw [h3] at hx; simpa using hx.symm⟩
      · exact ⟨_, _, _, h2, hx.symm⟩
theorem op_index_str {T : TypeId} {x y : Operand} {b : ByteArray} {k : IntKind} {n : Int} {u : UInt8} (ho : o.op = .index T x y) (hu : P.underlying T = some .string) (hx : opv e x = .str b) (hy : opv e y = .int k n)
    (h0 : 0 ≤ n) (h1 : b.data.toList[n.toNat]? = some u) : AOp P σ e o (.int .u8 u.toNat) σ :=
  .of_run fun s a _ _ hv => by
    have h2 := (hx ▸ hv x (by simp [ho, Op.operands])).inv_str
    have h3 := (hy ▸ hv y (by simp [ho, Op.operands])).inv_int
    have hlt : n.toNat < b.size := by have := (List.getElem?_eq_some_iff.1 h1).1; simpa using this
    have hg : b[n.toNat]? = some u := by
      rw [getElem?_pos b n.toNat hlt]
      have := (List.getElem?_eq_some_iff.1 h1).2
      rw [← this]; rfl
    exact ⟨.int .u8 u.toNat, by simp [execOp, ho, h2, h3, Instr.index, asIntOf, run_underlying hu, h0, hg], .int _ _⟩
/-- A bound of a slice expression; d: what it is where none is written. -/
def bnd (e : Env) (d : Int) (l : Int) : Option Operand → Prop
  | some y => ∃ k, opv e y = .int k l
  | none => l = d
def bndC (d : Int) (l : Int) : Option Value → Prop
  | some v => ∃ k, v = .int k l
  | none => l = d
theorem bnd.ev {e : Env} {s : CS} {a : Act} {d l : Int} {lo : Option Operand} (h : bnd e d l lo) (hv : ∀ y, lo = some y → V s (opv e y) (a.eval y)) : bndC d l (lo.map a.eval) := by
  cases lo with
  | none => exact h
  | some y => obtain ⟨k, h⟩ := h; exact ⟨k, (h ▸ hv y rfl).inv_int⟩
theorem op_slice_str {T : TypeId} {x : Operand} {lo hi : Option Operand} {b : ByteArray} (l h : Int) (ho : o.op = .slice T x lo hi none) (hu : P.underlying T = some .string) (hx : opv e x = .str b)
    (hl : bnd e 0 l lo) (hh : bnd e b.size h hi) (h0 : 0 ≤ l) (h1 : l ≤ h) (h2 : h ≤ b.size) : AOp P σ e o (.str (b.extract l.toNat h.toNat)) σ :=
  .of_run fun s a _ _ hv => by
    have h3 := (hx ▸ hv x (by simp [ho, Op.operands])).inv_str
    refine ⟨.string (b.extract l.toNat h.toNat), ?_, .str _⟩
    have h0h : 0 ≤ h := by omega
    have hl' := hl.ev (s := s) (a := a) (fun y hy => hv y (by subst hy; simp [ho, Op.operands]))
    have hh' := hh.ev (s := s) (a := a) (fun y hy => hv y (by subst hy; simp [ho, Op.operands]))
    clear hl hh
    generalize hlo : lo.map a.eval = lo' at *
    generalize hhi : hi.map a.eval = hi' at *
    cases lo' with
    | none =>
      have : l = 0 := hl'
      subst this
      cases hi' with
      | none =>
        have : h = b.size := hh'
        subst this
        simp [execOp, ho, h3, hlo, hhi, Instr.sliceAt, Instr.slice, Instr.sliceBounds, run_underlying hu]
      | some y =>
        obtain ⟨k, rfl⟩ := hh'
        simp [execOp, ho, h3, hlo, hhi, Instr.sliceAt, Instr.slice, Instr.sliceBounds, Instr.sliceBound, asIntOf, run_underlying hu, h0h, h2]
    | some z =>
      obtain ⟨kl, rfl⟩ := hl'
      cases hi' with
      | none =>
        have : h = b.size := hh'
        subst this
        have : l ≤ (b.size : Int) := h1
        simp [execOp, ho, h3, hlo, hhi, Instr.sliceAt, Instr.slice, Instr.sliceBounds, Instr.sliceBound, asIntOf, run_underlying hu, h0, this]
      | some y =>
        obtain ⟨k, rfl⟩ := hh'
        simp [execOp, ho, h3, hlo, hhi, Instr.sliceAt, Instr.slice, Instr.sliceBounds, Instr.sliceBound, asIntOf, run_underlying hu, h0h, h2, h0]
        intro hm
        omega
end Lg
