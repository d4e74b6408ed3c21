import Derived.Test.YtehjmhgedbfddaaDoorLu1
set_option linter.unusedVariables false
set_option linter.unusedSimpArgs false
set_option linter.unusedSectionVars false
namespace Lg
open Go

theorem jnum_ext (a b : JNum) : a = b ↔ a.neg = b.neg ∧ a.digits = b.digits ∧ a.exp = b.exp := by cases a; cases b; simp
theorem jv_ext (a b : JV) : a = b ↔ a.kind = b.kind ∧ a.b = b.b ∧ (a.n.neg = b.n.neg ∧ a.n.digits = b.n.digits ∧ a.n.exp = b.n.exp) ∧ a.s = b.s ∧ a.l = b.l ∧ a.m = b.m := by
  rw [← jnum_ext]; cases a; cases b; simp [JV.kind, JV.b, JV.n, JV.s, JV.l, JV.m]
mutual
def jdepth : JV → Int
  | .mk k _ _ _ l m => if k = 4 ∨ k = 5 then max (ldep l) (mdep m) + 1 else 0
def ldep : List JV → Int
  | [] => 0
  | v :: r => max (ldep r) (jdepth v)
def mdep : List (ByteArray × JV) → Int
  | [] => 0
  | (_, v) :: r => max (mdep r) (jdepth v)
end
theorem jdepth_eq (v : JV) : jdepth v = if v.kind = 4 ∨ v.kind = 5 then max (ldep v.l) (mdep v.m) + 1 else 0 := by
  cases v with
  | mk k b n s l m =>
    simp only [jdepth, JV.kind, JV.l, JV.m]
    by_cases h : k = 4 ∨ k = 5 <;> simp only [h, if_true, if_false]
mutual
theorem jdepth_nn : ∀ v : JV, 0 ≤ jdepth v ∧ jdepth v ≤ jsize v
  | .mk k _ _ _ l m => by
    have := ldep_nn l; have := mdep_nn m; have := lsize_nn l; have := msize_nn m
    simp only [jdepth, jsize]; split <;> omega
theorem ldep_nn : ∀ l : List JV, 0 ≤ ldep l ∧ ldep l ≤ lsize l
  | [] => by simp [ldep, lsize]
  | v :: r => by have := jdepth_nn v; have := ldep_nn r; have := lsize_nn r; have := jsize_pos v; simp only [ldep, lsize]; omega
theorem mdep_nn : ∀ l : List (ByteArray × JV), 0 ≤ mdep l ∧ mdep l ≤ msize l
  | [] => by simp [mdep, msize]
  | (k, v) :: r => by have := jdepth_nn v; have := mdep_nn r; have := msize_nn r; have := jsize_pos v; simp only [mdep, msize]; omega
end
theorem ldep_take (l : List JV) (i : Nat) (v : JV) (h : l[i]? = some v) : ldep (l.take (i + 1)) = max (ldep (l.take i)) (jdepth v) := by
  induction l generalizing i with
  | nil => simp at h
  | cons a r ih =>
    have := jdepth_nn a
    cases i with
    | zero => simp at h; subst h; simp [ldep]
    | succ i => simp at h; simp only [List.take_succ_cons, ldep, ih i h]; omega
theorem mdep_take (l : List (ByteArray × JV)) (i : Nat) (q : ByteArray × JV) (h : l[i]? = some q) : mdep (l.take (i + 1)) = max (mdep (l.take i)) (jdepth q.2) := by
  induction l generalizing i with
  | nil => simp at h
  | cons a r ih =>
    obtain ⟨k, a⟩ := a
    have := jdepth_nn a
    cases i with
    | zero => simp at h; subst h; simp [mdep]
    | succ i => simp at h; simp only [List.take_succ_cons, mdep, ih i h]; omega
theorem lsize_take (l : List JV) (i : Nat) (v : JV) (h : l[i]? = some v) : lsize (l.take (i + 1)) = lsize (l.take i) + jsize v := by
  induction l generalizing i with
  | nil => simp at h
  | cons a r ih =>
    cases i with
    | zero => simp at h; subst h; simp [lsize]
    | succ i => simp at h; simp only [List.take_succ_cons, lsize, ih i h]; omega
theorem msize_take (l : List (ByteArray × JV)) (i : Nat) (q : ByteArray × JV) (h : l[i]? = some q) : msize (l.take (i + 1)) = msize (l.take i) + jsize q.2 := by
  induction l generalizing i with
  | nil => simp at h
  | cons a r ih =>
    obtain ⟨k, a⟩ := a
    cases i with
    | zero => simp at h; subst h; simp [msize]
    | succ i => simp at h; simp only [List.take_succ_cons, msize, ih i h]; omega
theorem lsize_take_le (l : List JV) (i : Nat) : lsize (l.take i) ≤ lsize l := by
  induction l generalizing i with
  | nil => simp
  | cons a r ih =>
    have := jsize_pos a
    cases i with
    | zero => simp only [List.take_zero, lsize]; have := lsize_nn r; omega
    | succ i => simp only [List.take_succ_cons, lsize]; have := ih i; omega
theorem msize_take_le (l : List (ByteArray × JV)) (i : Nat) : msize (l.take i) ≤ msize l := by
  induction l generalizing i with
  | nil => simp
  | cons a r ih =>
    obtain ⟨k, a⟩ := a
    have := jsize_pos a
    cases i with
    | zero => simp only [List.take_zero, msize]; have := msize_nn r; omega
    | succ i => simp only [List.take_succ_cons, msize]; have := ih i; omega
theorem llen_le (l : List JV) : (l.length : Int) ≤ lsize l := by
  induction l with
  | nil => simp [lsize]
  | cons a r ih => have := jsize_pos a; simp only [lsize, List.length_cons]; omega
theorem mlen_le (l : List (ByteArray × JV)) : (l.length : Int) ≤ msize l := by
  induction l with
  | nil => simp [msize]
  | cons a r ih => obtain ⟨k, a⟩ := a; have := jsize_pos a; simp only [msize, List.length_cons]; omega

theorem pb_niff (p : Prop) : pb p = false ↔ ¬ p := by
  constructor
  · intro h hp; rw [pb_t hp] at h; cases h
  · exact pb_f
theorem list_eq_of {α : Type} {l r : List α} (hl : l.length = r.length) (h : ∀ j : Nat, j < l.length → l[j]? = r[j]?) : l = r := by
  apply List.ext_getElem?
  intro i
  by_cases hi : i < l.length
  · exact h i hi
  · rw [List.getElem?_eq_none (by omega), List.getElem?_eq_none (by omega)]
section
variable [GLay] {P : Program}
theorem AC2 {f : FuncId} {a a' b b' : List AV} {σ : List AO} {R : Out → List AO → Prop} (e1 : a = a') (e2 : b = b') (h : ACalls P f [.agg a, .agg b] σ R) : ACalls P f [.agg a', .agg b'] σ R := by subst e1; subst e2; exact h
theorem AC1 {f : FuncId} {a a' : List AV} {σ : List AO} {R : Out → List AO → Prop} (e1 : a = a') (h : ACalls P f [.agg a] σ R) : ACalls P f [.agg a'] σ R := by subst e1; exact h
end
end Lg
