import Derived.Test.YtehjmhgedbfddaaDoorLg3
set_option linter.unusedVariables false
set_option linter.unusedSimpArgs false
set_option linter.unusedSectionVars false
namespace Lg
open Go Go.RowKit
variable [GLay]

/-! ### What a call's slots hold -/
structure Env where
  D : List (FuncId × List AV) := []
  l : List (Nat × AV)

def lookL : List (Nat × AV) → Nat → AV
  | [], _ => .any
  | (k, v) :: r, t => bif Nat.beq k t then v else lookL r t
def Env.look (e : Env) (t : Nat) : AV := lookL e.l t
def Env.put (e : Env) (d : Option Nat) (v : AV) : Env := match d with | some d => { e with l := (d, v) :: e.l } | none => e

def ofConst1 : Value → AV
  | .bool b => .bool b
  | .int k n => .int k n
  | .string s => .str s
  | .pointer none => .nilp
  | .slice none 0 0 => .nils
  | .map none => .nilm
  | .nilFunc => .nilf
  | .nilIface => .nili
  | _ => .any
def ofConst : Value → AV
  | .agg cs => .agg (cs.toList.map ofConst1)
  | v => ofConst1 v
/-- What an operand is. -/
def opv (e : Env) : Operand → AV
  | .tmp t => e.look t
  | .const v => ofConst v
  | .func f => .func (.func f) [] []
  | .global _ => .any

theorem V_ofConst1 (s : CS) (v : Value) : V s (ofConst1 v) v := by
  unfold ofConst1
  split <;> constructor
theorem V_ofConst (s : CS) (v : Value) : V s (ofConst v) v := by
  unfold ofConst
  split
  · rename_i cs
    have := V.agg (s := s) (cs.toList.map ofConst1) cs.toList (by simp) (fun i c v h1 h2 => by
      rw [List.getElem?_map, h2] at h1
      simp at h1
      subst h1
      exact V_ofConst1 s v)
    simpa using this
  · exact V_ofConst1 s v

def DefOK (s : CS) : List (FuncId × List AV) → List Deferred → Prop
  | [], [] => True
  | (f, l) :: r, d :: r' => (d.target = .fn (.func f) #[] ∧ ∃ vs : List Value, d.args = vs.toArray ∧ PW s l vs) ∧ DefOK s r r'
  | _, _ => False
theorem DefOK.mono {s s' : CS} (g : Good s) (x : Ext s s') : ∀ {D : List (FuncId × List AV)} {ds : List Deferred}, DefOK s D ds → DefOK s' D ds
  | [], [], _ => trivial
  | _ :: _, _ :: _, ⟨⟨h1, vs, h2, h3⟩, h4⟩ => ⟨⟨h1, vs, h2, h3.mono g x⟩, DefOK.mono g x h4⟩

structure EnvOK (s : CS) (N : Nat) (e : Env) (a : Act) : Prop where
  size : a.tmps.size = N
  defers : DefOK s e.D a.defers
  tmps : ∀ t, V s (e.look t) (a.eval (.tmp t))
theorem EnvOK.mono {s s' : CS} {N : Nat} {e : Env} {a : Act} (g : Good s) (x : Ext s s') (h : EnvOK s N e a) : EnvOK s' N e a :=
  ⟨h.size, h.defers.mono g x, fun t => (h.tmps t).mono g x⟩
theorem EnvOK.eval {s : CS} {N : Nat} {e : Env} {a : Act} (h : EnvOK s N e a) (x : Operand) : V s (opv e x) (a.eval x) := by
  cases x with
  | tmp t => exact h.tmps t
  | const v => exact V_ofConst s v
  | global g => exact .any _
  | func f =>
    have := V.func (s := s) (.func f) [] [] [] [] rfl rfl (fun i a v h => by simp at h) (fun i a v h => by simp at h)
    exact this
theorem EnvOK.put {s : CS} {N : Nat} {e : Env} {a : Act} (h : EnvOK s N e a) (d : Option Nat) {v : AV} {c : Value} (hv : V s v c) (hd : ∀ t, d = some t → t < N) : EnvOK s N (e.put d v) (a.put d c) := by
  cases d with
  | none => exact h
  | some d =>
    have hdN := hd d rfl
    refine ⟨by simp [Act.put, h.size], h.defers, fun t => ?_⟩
    show V s (lookL ((d, v) :: e.l) t) _
    simp only [lookL, Act.put, Act.eval]
    by_cases e1 : d = t
    · subst e1
      have : (Nat.beq d d) = true := Nat.beq_refl d
      rw [this]
      have hlt : d < a.tmps.size := by rw [h.size]; exact hdN
      simp [hlt]
      exact hv
    · have : Nat.beq d t = false := by
        cases hb : Nat.beq d t with
        | false => rfl
        | true => exact absurd (Nat.eq_of_beq_eq_true hb) e1
      rw [this]
      have h2 := h.tmps t
      simp only [Act.eval] at h2
      have e2 : (a.tmps.setIfInBounds d c).getD t undef = a.tmps.getD t undef := by
        simp [Array.getD_eq_getD_getElem?, e1]
      rw [e2]
      exact h2

/-! ### One operation -/
/-- From σ, at the slots e, the operation o comes to a value and a heap of N, or panics with a value and a heap of X. -/
def AOpR (P : Program) (σ : List AO) (e : Env) (o : Oper) (N X : AV → List AO → Prop) : Prop :=
  ∀ (s : CS) (a : Act), s.σ = σ → Good s → (∀ x ∈ o.op.operands, V s (opv e x) (a.eval x)) → ∀ (K : Act → World → Prop) (Q : Exit → Act → World → Prop),
    (∀ v cv s', N v s'.σ → Good s' → Ext s s' → V s' v cv → K (a.put o.dst cv) s'.w) →
    (∀ v cv s', X v s'.σ → Good s' → Ext s s' → V s' v cv → Q (.panic [{ v := cv, recovered := false }]) a s'.w) → o.wp P a s.w K Q
def AOp (P : Program) (σ : List AO) (e : Env) (o : Oper) (v : AV) (σ' : List AO) : Prop :=
  AOpR P σ e o (fun v' σ'' => v' = v ∧ σ'' = σ') (fun _ _ => False)

theorem AOpR.mono {P : Program} {σ : List AO} {e : Env} {o : Oper} {N X N' X' : AV → List AO → Prop} (h : AOpR P σ e o N X) (hn : ∀ v s, N v s → N' v s) (hx : ∀ v s, X v s → X' v s) : AOpR P σ e o N' X' :=
  fun s a hs g hv K Q hk hq => h s a hs g hv K Q (fun v cv s' hN => hk v cv s' (hn _ _ hN)) (fun v cv s' hX => hq v cv s' (hx _ _ hX))

theorem wp_value {P : Program} {o : Oper} {a : Act} {w w' : World} {K : Act → World → Prop} {Q : Exit → Act → World → Prop} {cv : Value}
    (h : (execOp a.eval o).run P w = .ok (.value cv) w') (hk : K (a.put o.dst cv) w') : o.wp P a w K Q := by
  unfold Oper.wp; rw [h]; exact hk
theorem wp_skipv {P : Program} {o : Oper} {a : Act} {w w' : World} {K : Act → World → Prop} {Q : Exit → Act → World → Prop}
    (h : (execOp a.eval o).run P w = .ok .skip w') (hk : K (a.put o.dst undef) w') : o.wp P a w K Q := by
  unfold Oper.wp; rw [h]; exact hk

/-- An operation that touches no memory. -/
theorem AOp.of_run {P : Program} {σ : List AO} {e : Env} {o : Oper} {v : AV}
    (h : ∀ (s : CS) (a : Act), s.σ = σ → Good s → (∀ x ∈ o.op.operands, V s (opv e x) (a.eval x)) → ∃ cv, (execOp a.eval o).run P s.w = .ok (.value cv) s.w ∧ V s v cv) : AOp P σ e o v σ :=
  fun s a hs g hv _ _ hk _ => by
    obtain ⟨cv, h1, h2⟩ := h s a hs g hv
    exact wp_value h1 (hk v cv s ⟨rfl, hs⟩ g (Ext.refl s) h2)

theorem V.undef (s : CS) : V s (.tup []) undef := V.tup (s := s) [] [] rfl (fun i c v h _ => by simp at h)
/-! ### Values, by sight -/
section inv
variable {s : CS} {c : Value}
theorem V.inv_bool {b : Bool} (h : V s (.bool b) c) : c = .bool b := by cases h; rfl
theorem V.inv_int {k : IntKind} {n : Int} (h : V s (.int k n) c) : c = .int k n := by cases h; rfl
theorem V.inv_str {x : ByteArray} (h : V s (.str x) c) : c = .string x := by cases h; rfl
theorem V.inv_nilp (h : V s .nilp c) : c = .pointer none := by cases h; rfl
theorem V.inv_nili (h : V s .nili c) : c = .nilIface := by cases h; rfl
theorem V.inv_nilf (h : V s .nilf c) : c = .nilFunc := by cases h; rfl
theorem V.inv_nils (h : V s .nils c) : c = .slice none 0 0 := by cases h; rfl
theorem V.inv_nilm (h : V s .nilm c) : c = .map none := by cases h; rfl
theorem V.inv_iface {T : TypeId} {a : AV} (h : V s (.iface T a) c) : ∃ v, c = .iface T v ∧ V s a v := by cases h; exact ⟨_, rfl, by assumption⟩
theorem V.inv_agg {cs : List AV} (h : V s (.agg cs) c) : ∃ vs : List Value, c = .agg vs.toArray ∧ PW s cs vs := by cases h with | agg _ vs hl hv => exact ⟨vs, rfl, hl, hv⟩
theorem V.inv_tup {cs : List AV} (h : V s (.tup cs) c) : ∃ vs : List Value, c = .tuple vs.toArray ∧ PW s cs vs := by cases h with | tup _ vs hl hv => exact ⟨vs, rfl, hl, hv⟩
theorem V.inv_undef (h : V s (.tup []) c) : c = Go.undef := by
  obtain ⟨vs, rfl, hp⟩ := h.inv_tup
  have : vs = [] := List.eq_nil_of_length_eq_zero hp.1
  subst this; rfl
theorem V.inv_ptr {p off : Nat} (h : V s (.ptr p off) c) : c = .pointer (some ⟨(s.μ p).b, off, none⟩) := by cases h; rfl
theorem V.inv_pp {cs : List AV} (h : V s (.pp cs) c) : ∃ b off vs, c = .pointer (some ⟨b, off, none⟩) ∧ s.ok b ∧ (∀ (i : Nat) (v : Value), vs[i]? = some v → s.w.cell? ⟨b, off + i, none⟩ = some v) ∧ PW s cs vs := by
  cases h with | pp _ b off vs hok hl hc hv => exact ⟨b, off, vs, rfl, hok, hc, hl, hv⟩
theorem V.inv_func {fn : Fn} {f cp : List AV} (h : V s (.func fn f cp) c) : ∃ vf vc : List Value, c = .func fn vf.toArray vc.toArray ∧ PW s f vf ∧ PW s cp vc := by
  cases h with | func _ _ _ vf vc hf hc h1 h2 => exact ⟨vf, vc, rfl, ⟨hf, h1⟩, ⟨hc, h2⟩⟩
theorem V.inv_pel {p g i sz : Nat} {cs : List AV} (h : V s (.pel p g i) c) (hs : s.σ[p]? = some (.arr sz g cs)) : c = .pointer (some ⟨(s.μ p).b, (s.μ p).base + i, none⟩) := by
  cases h with | pel _ _ _ _ _ h => unfold ArrAt at h; rw [hs] at h; exact h.2 rfl
theorem V.inv_arr {p g sz sz' off len : Nat} {cs : List AV} (h : V s (.arr p g sz off len) c) (hs : s.σ[p]? = some (.arr sz' g cs)) :
    sz' = sz ∧ ((∃ ad, c = .slice ad 0 0 ∧ len = 0) ∨ ∃ cap, c = .slice (some ⟨(s.μ p).b, (s.μ p).base + off * sz, none⟩) len cap ∧ len ≤ cap ∧ (s.μ p).base + (off + cap) * sz ≤ (s.μ p).tot) := by
  cases h with | arr _ _ _ _ _ _ _ h => unfold ArrAt at h; rw [hs] at h; exact h.2 rfl
end inv
end Lg
