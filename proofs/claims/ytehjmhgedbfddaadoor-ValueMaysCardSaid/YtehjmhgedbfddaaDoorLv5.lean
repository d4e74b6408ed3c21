import Derived.Test.YtehjmhgedbfddaaDoorLv4
set_option linter.unusedVariables false
set_option linter.unusedSimpArgs false
set_option linter.unusedSectionVars false
namespace Lg
open Go

variable [GLay]
/-! ### Values that a law makes -/
def vz : JV := .mk 0 false {} ⟨#[]⟩ [] []
def v4 : JV := .mk 4 false {} ⟨#[]⟩ [] []
def v6 : JV := .mk 6 false {} ⟨#[]⟩ [] []
theorem AVleL.append {a a' b b' : List AV} (h : AVleL a a') (k : AVleL b b') : AVleL (a ++ b) (a' ++ b') := by
  induction a generalizing a' with
  | nil => cases a' with
    | nil => exact k
    | cons => exact h.elim
  | cons x a ih => cases a' with
    | nil => exact h.elim
    | cons y a' => exact ⟨h.1, ih h.2⟩
theorem AVleL.flat1 {a a' : List AV} (h : AVleL a a') : AVleL [a].flatten [a'].flatten := by
  simpa using h
theorem AVleL.flat2 {a a' b b' : List AV} (h : AVleL a a') (k : AVleL b b') : AVleL [a, b].flatten [a', b'].flatten := by
  simpa using h.append k
theorem vle8 {k x : Int} {b ng : Bool} {d s : ByteArray} {L M : AV} {l : List JV} {m : List (ByteArray × JV)} (hL : AVle L (.sl false 8 (lcells l))) (hM : AVle M (.sl false 9 (mcells m))) :
    AVleL [.int .i64 k, .bool b, .bool ng, .str d, .int .i64 x, .str s, L, M] (vcells (.mk k b ⟨ng, d, x⟩ s l m)) := by
  rw [vcells_eq]
  exact ⟨AVle.refl _, AVle.refl _, AVle.refl _, AVle.refl _, AVle.refl _, AVle.refl _, hL, hM, trivial⟩
theorem nilL : AVle .nils (.sl false 8 (lcells [])) := by simpa [lcells] using AVle.nils false 8
theorem nilM : AVle .nils (.sl false 9 (mcells [])) := by simpa [mcells] using AVle.nils false 9
theorem vlen (v : JV) : (vcells v).length = 8 := by rw [vcells_eq]; rfl
theorem sl1 {a : List AV} {v : JV} (h : AVleL a (vcells v)) : AVle (.sl true 8 [a]) (.sl false 8 (lcells [v])) := by
  refine (AVle.full 8 [a]).trans (AVle.sl ?_ ?_ ?_)
  · simpa [lcells] using h
  · simp [lcells]
  · intro r hr; simp [lcells] at hr; subst hr; exact vlen _
theorem sl2 {a b : List AV} {v u : JV} (h : AVleL a (vcells v)) (k : AVleL b (vcells u)) : AVle (.sl true 8 [a, b]) (.sl false 8 (lcells [v, u])) := by
  refine (AVle.full 8 [a, b]).trans (AVle.sl ?_ ?_ ?_)
  · simpa [lcells] using h.append k
  · simp [lcells]
  · intro r hr; simp [lcells] at hr; rcases hr with rfl | rfl <;> exact vlen _
theorem ml2 {a b : List AV} {x y : ByteArray} {v u : JV} (h : AVleL a (vcells v)) (k : AVleL b (vcells u)) : AVle (.sl true 9 [.str x :: a, .str y :: b]) (.sl false 9 (mcells [(x, v), (y, u)])) := by
  refine (AVle.full 9 _).trans (AVle.sl ?_ ?_ ?_)
  · have : AVleL (.str x :: a ++ .str y :: b) (.str x :: vcells v ++ .str y :: vcells u) := AVleL.append ⟨AVle.refl _, h⟩ ⟨AVle.refl _, k⟩
    simpa [mcells] using this
  · simp [mcells]
  · intro r hr; simp [mcells] at hr; rcases hr with rfl | rfl <;> simp [vlen]
section
variable {P : Program}
theorem AC1c {f : FuncId} {l : List AV} {v : JV} {σ : List AO} {R : Out → List AO → Prop} (e : AVleL l (vcells v)) (h : ACalls P f [.agg (vcells v)] σ R) : ACalls P f [.agg l] σ R := ACalls.conv (args' := [.agg (vcells v)]) ⟨AVle.agg e, trivial⟩ h
theorem AC2c {f : FuncId} {l r : List AV} {v u : JV} {σ : List AO} {R : Out → List AO → Prop} (e : AVleL l (vcells v)) (e' : AVleL r (vcells u)) (h : ACalls P f [.agg (vcells v), .agg (vcells u)] σ R) : ACalls P f [.agg l, .agg r] σ R := ACalls.conv (args' := [.agg (vcells v), .agg (vcells u)]) ⟨AVle.agg e, AVle.agg e', trivial⟩ h
end
theorem zmay : NumMay {} := .inl ⟨rfl, rfl, rfl⟩
theorem zutf : Utf ⟨#[]⟩ := rfl
theorem may4 : jmay v4 := (jmay_eq v4).2 ⟨⟨by decide, by decide, by decide, zmay, zutf⟩, fun j q hj => absurd hj (by simp [v4, JV.m]), fun i x hx => by simp [v4, JV.l] at hx⟩
theorem may6 : ¬ jmay v6 := fun h => by have := ((jmay_eq v6).1 h).1.2.1; simp [v6, JV.kind] at this
theorem jsize_nil (k : Int) (b : Bool) (n : JNum) (s : ByteArray) : jsize (.mk k b n s [] []) = 1 := by simp [jsize, lsize, msize]
theorem jb_nil (k : Int) (b : Bool) (n : JNum) (s : ByteArray) (h1 : n.digits.size ≤ 1000000) (h2 : s.size ≤ 1000000) : jb (.mk k b n s [] []) := by simp [jb, lb, mb, h1, h2]
theorem jdepth4 : jdepth v4 = 1 := by rw [jdepth_eq]; simp [v4, JV.kind, JV.l, JV.m, ldep, mdep]
end Lg
namespace Lg
open Go
@[simp] theorem zsize : (ByteArray.mk #[]).size = 0 := rfl
section
variable [GLay] {P : Program} {σ : List AO} {e : Env} {o : Oper}
theorem op_beqlS {T T' : TypeId} {x y : Operand} {a : Bool} (ho : o.op = .binOp .eql T x y T') (hu : P.underlying T = some .bool) (hx : opv e x = .bool a) (hy : opv e y = .bool a) : AOp P σ e o (.bool true) σ := by
  have := op_beql (P := P) (σ := σ) ho hu hx hy
  rwa [beq_self_eq_true] at this
end
end Lg
