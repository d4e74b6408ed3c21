import Derived.Test.YtehjmhgedbfddaaDoorLv1
import Derived.Test.YtehjmhgedbfddaaDoorLg23
set_option linter.unusedVariables false
set_option linter.unusedSimpArgs false
set_option linter.unusedSectionVars false
namespace Lg
open Go

noncomputable def pb (p : Prop) : Bool := @decide p (Classical.propDecidable p)
theorem pb_t {p : Prop} (h : p) : pb p = true := by unfold pb; exact @decide_eq_true p (Classical.propDecidable p) h
theorem pb_f {p : Prop} (h : ¬ p) : pb p = false := by unfold pb; exact @decide_eq_false p (Classical.propDecidable p) h
theorem pb_iff (p : Prop) : pb p = true ↔ p := by unfold pb; exact @decide_eq_true_iff p (Classical.propDecidable p)
theorem bool_t {p : Prop} (h : p) : AV.bool true = .bool (pb p) := by rw [pb_t h]
theorem bool_f {p : Prop} (h : ¬ p) : AV.bool false = .bool (pb p) := by rw [pb_f h]
theorem bool_of {b : Bool} {p : Prop} (h : b = true ↔ p) : AV.bool b = .bool (pb p) := by
  congr 1; cases b
  · symm; exact pb_f fun hp => by have := h.2 hp; cases this
  · exact (pb_t (h.1 rfl)).symm

/-! ### value.go, plainly -/
def JNum.z (n : JNum) : Bool := decide (n.neg = false) && (decide (n.digits = ⟨#[]⟩) && (decide (n.exp = 0) && true))
def jbare (v : JV) : Bool :=
  !(v.b && !decide (v.kind = 1) || !v.n.z && !decide (v.kind = 2) || !decide (v.s = ⟨#[]⟩) && !decide (v.kind = 3)) && ((decide (v.l.length = 0) || decide (v.kind = 4)) && (decide (v.m.length = 0) || decide (v.kind = 5)))
@[simp] theorem lcells_nil (l : List JV) : lcells l = [] ↔ l = [] := by cases l <;> simp [lcells]
@[simp] theorem mcells_nil (l : List (ByteArray × JV)) : mcells l = [] ↔ l = [] := by
  cases l with
  | nil => simp [mcells]
  | cons q r => obtain ⟨k, v⟩ := q; simp [mcells]
theorem ba_pos {b : ByteArray} (h : ¬ b = ⟨#[]⟩) : 0 < b.size := by
  rcases Nat.eq_zero_or_pos b.size with h0 | h0
  · exfalso; apply h
    obtain ⟨d⟩ := b
    have : d = #[] := Array.eq_empty_of_size_eq_zero h0
    rw [this]
  · exact h0
def dig (b : ByteArray) (i : Nat) : Prop := 48 ≤ (bat b i).toNat ∧ (bat b i).toNat ≤ 57
def digs (b : ByteArray) (i : Nat) : Prop := ∀ j, j < i → dig b j
theorem digs_succ {b : ByteArray} {i : Nat} : digs b (i + 1) ↔ digs b i ∧ dig b i := by
  constructor
  · exact fun h => ⟨fun j hj => h j (by omega), h i (by omega)⟩
  · intro ⟨h1, h2⟩ j hj
    by_cases e : j = i
    · subst e; exact h2
    · exact h1 j (by omega)
def NumMay (n : JNum) : Prop := (n.digits = ⟨#[]⟩ ∧ n.neg = false ∧ n.exp = 0) ∨
  (¬ n.digits = ⟨#[]⟩ ∧ digs n.digits n.digits.size ∧ n.digits.size ≤ 60 ∧ (bat n.digits 0).toNat ≠ 48 ∧ (bat n.digits (n.digits.size - 1)).toNat ≠ 48 ∧ -1000 ≤ n.exp ∧ n.exp ≤ 1000)
end Lg
namespace Lg
open Go
@[simp] theorem brows_lt (n : Nat) (b : ByteArray) : AV.ltLL n (brows b) := by
  unfold brows
  induction b.data.toList with
  | nil => simp [AV.ltLL]
  | cons x l ih => simp [AV.ltLL, AV.ltL, AV.lt, ih]
instance (b : ByteArray) (i : Nat) : Decidable (dig b i) := by unfold dig; exact inferInstance
/-- How many digits there are from a place on. -/
def runl (b : ByteArray) (i : Nat) : Nat := if h : i < b.size ∧ dig b i then runl b (i + 1) + 1 else 0
termination_by b.size - i
theorem runl_yes {b : ByteArray} {i : Nat} (h1 : i < b.size) (h2 : dig b i) : runl b i = runl b (i + 1) + 1 := by
  rw [runl]; simp [h1, h2]
theorem runl_no {b : ByteArray} {i : Nat} (h : ¬ (i < b.size ∧ dig b i)) : runl b i = 0 := by
  rw [runl]; simp only [h, dite_false]
theorem runl_le (b : ByteArray) (i : Nat) : runl b i ≤ b.size - i := by
  by_cases h : i < b.size ∧ dig b i
  · rw [runl_yes h.1 h.2]; have := runl_le b (i + 1); omega
  · rw [runl_no h]; omega
termination_by b.size - i
theorem runl_digs {b : ByteArray} (i : Nat) : ∀ j, i ≤ j → j < i + runl b i → dig b j := by
  by_cases h : i < b.size ∧ dig b i
  · intro j h1 h2
    rw [runl_yes h.1 h.2] at h2
    by_cases e : j = i
    · subst e; exact h.2
    · exact runl_digs (i + 1) j (by omega) (by omega)
  · intro j h1 h2; rw [runl_no h] at h2; omega
termination_by b.size - i
theorem runl_full {b : ByteArray} (i : Nat) (h : ∀ j, i ≤ j → j < b.size → dig b j) (hi : i ≤ b.size) : i + runl b i = b.size := by
  by_cases h1 : i < b.size
  · rw [runl_yes h1 (h i (Nat.le_refl _) h1)]
    have := runl_full (i + 1) (fun j h2 h3 => h j (by omega) h3) h1
    omega
  · rw [runl_no (by omega)]; omega
termination_by b.size - i
theorem runl0 (b : ByteArray) : runl b 0 = b.size ↔ digs b b.size := by
  constructor
  · intro h j hj; exact runl_digs 0 j (by omega) (by omega)
  · intro h; have := runl_full 0 (fun j _ hj => h j hj) (Nat.zero_le _); omega
end Lg
