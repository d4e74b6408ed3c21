import Derived.Test.YtehjmhgedbfddaaDoorLv2
import Derived.Lib.ValidU
set_option linter.unusedVariables false
set_option linter.unusedSimpArgs false
set_option linter.unusedSectionVars false
namespace Lg
open Go

theorem lsize_mem {l : List JV} {i : Nat} {x : JV} (h : l[i]? = some x) : jsize x ≤ lsize l := by
  induction l generalizing i with
  | nil => simp at h
  | cons a r ih =>
    have := jsize_pos a
    have := lsize_nn r
    cases i with
    | zero => simp at h; subst h; simp only [lsize]; omega
    | succ i => simp at h; have := ih h; simp only [lsize]; omega
theorem msize_mem {l : List (ByteArray × JV)} {i : Nat} {q : ByteArray × JV} (h : l[i]? = some q) : jsize q.2 ≤ msize l := by
  induction l generalizing i with
  | nil => simp at h
  | cons a r ih =>
    obtain ⟨k, a⟩ := a
    have := jsize_pos a
    have := msize_nn r
    cases i with
    | zero => simp at h; subst h; simp only [msize]; omega
    | succ i => simp at h; have := ih h; simp only [msize]; omega
/-! ### No part is too large -/
mutual
def jb : JV → Prop
  | .mk _ _ n s l m => n.digits.size ≤ 1000000 ∧ s.size ≤ 1000000 ∧ l.length ≤ 1000000 ∧ m.length ≤ 1000000 ∧ lb l ∧ mb m
def lb : List JV → Prop
  | [] => True
  | v :: r => jb v ∧ lb r
def mb : List (ByteArray × JV) → Prop
  | [] => True
  | (k, v) :: r => k.size ≤ 1000000 ∧ jb v ∧ mb r
end
theorem jb_eq (v : JV) : jb v ↔ v.n.digits.size ≤ 1000000 ∧ v.s.size ≤ 1000000 ∧ v.l.length ≤ 1000000 ∧ v.m.length ≤ 1000000 ∧ lb v.l ∧ mb v.m := by cases v; simp [jb, JV.n, JV.s, JV.l, JV.m]
theorem lb_get {l : List JV} {i : Nat} {x : JV} (h : lb l) (hx : l[i]? = some x) : jb x := by
  induction l generalizing i with
  | nil => simp at hx
  | cons a r ih =>
    cases i with
    | zero => simp at hx; subst hx; exact h.1
    | succ i => simp at hx; exact ih h.2 hx
theorem mb_get {l : List (ByteArray × JV)} {i : Nat} {q : ByteArray × JV} (h : mb l) (hx : l[i]? = some q) : q.1.size ≤ 1000000 ∧ jb q.2 := by
  induction l generalizing i with
  | nil => simp at hx
  | cons a r ih =>
    obtain ⟨k, a⟩ := a
    cases i with
    | zero => simp at hx; subst hx; exact ⟨h.1, h.2.1⟩
    | succ i => simp at hx; exact ih h.2.2 hx
/-! ### A value that may be -/
def Utf (s : ByteArray) : Prop := Go.Lib.validD s.data.toList = true
mutual
def jmay : JV → Prop
  | .mk k b n s l m => (0 ≤ k ∧ k ≤ 5 ∧ jbare (.mk k b n s l m) = true ∧ NumMay n ∧ Utf s) ∧ (∀ (i : Nat) (q : ByteArray × JV), m[i]? = some q → Utf q.1 ∧ ∀ q', i ≠ 0 → m[i - 1]? = some q' → blt q'.1 q.1 = true) ∧ lmay l ∧ mmay m
def lmay : List JV → Prop
  | [] => True
  | v :: r => jmay v ∧ lmay r
def mmay : List (ByteArray × JV) → Prop
  | [] => True
  | (k, v) :: r => jmay v ∧ mmay r
end
theorem lmay_iff (l : List JV) : lmay l ↔ ∀ (i : Nat) x, l[i]? = some x → jmay x := by
  induction l with
  | nil => simp [lmay]
  | cons a r ih =>
    simp only [lmay, ih]
    constructor
    · intro ⟨h1, h2⟩ i x hx
      cases i with
      | zero => simp at hx; subst hx; exact h1
      | succ i => simp at hx; exact h2 i x hx
    · intro h; exact ⟨h 0 a (by simp), fun i x hx => h (i + 1) x (by simpa using hx)⟩
theorem mmay_iff (l : List (ByteArray × JV)) : mmay l ↔ ∀ (i : Nat) (q : ByteArray × JV), l[i]? = some q → jmay q.2 := by
  induction l with
  | nil => simp [mmay]
  | cons a r ih =>
    obtain ⟨k, a⟩ := a
    simp only [mmay, ih]
    constructor
    · intro ⟨h1, h2⟩ i x hx
      cases i with
      | zero => simp at hx; subst hx; exact h1
      | succ i => simp at hx; exact h2 i x hx
    · intro h; exact ⟨h 0 (k, a) (by simp), fun i x hx => h (i + 1) x (by simpa using hx)⟩
/-- What is asked of the members ahead of i. -/
def mok (m : List (ByteArray × JV)) (i : Nat) : Prop := ∀ j q, j < i → m[j]? = some q → (Utf q.1 ∧ ∀ q', j ≠ 0 → m[j - 1]? = some q' → blt q'.1 q.1 = true) ∧ jmay q.2
theorem mok_succ {m : List (ByteArray × JV)} {i : Nat} {q : ByteArray × JV} (hq : m[i]? = some q) : mok m (i + 1) ↔ mok m i ∧ (Utf q.1 ∧ ∀ q', i ≠ 0 → m[i - 1]? = some q' → blt q'.1 q.1 = true) ∧ jmay q.2 := by
  constructor
  · intro h; exact ⟨fun j q' hj hq' => h j q' (by omega) hq', h i q (by omega) hq⟩
  · intro ⟨h1, h2⟩ j q' hj hq'
    by_cases e : j = i
    · subst e; rw [hq] at hq'; cases hq'; exact h2
    · exact h1 j q' (by omega) hq'
theorem jmay_eq (v : JV) : jmay v ↔ (0 ≤ v.kind ∧ v.kind ≤ 5 ∧ jbare v = true ∧ NumMay v.n ∧ Utf v.s) ∧ mok v.m v.m.length ∧ (∀ (i : Nat) x, v.l[i]? = some x → jmay x) := by
  cases v with
  | mk k b n s l m =>
    simp only [jmay, JV.kind, JV.n, JV.s, JV.l, JV.m, lmay_iff, mmay_iff, mok]
    constructor
    · intro ⟨h1, h2, h3, h4⟩
      exact ⟨h1, fun j q _ hq => ⟨h2 j q hq, h4 j q hq⟩, h3⟩
    · intro ⟨h1, h2, h3⟩
      exact ⟨h1, fun i q hq => (h2 i q (List.getElem?_eq_some_iff.1 hq).1 hq).1, h3, fun i q hq => (h2 i q (List.getElem?_eq_some_iff.1 hq).1 hq).2⟩
end Lg
namespace Lg
open Go
theorem bytesLess_asymm : ∀ (a b : List UInt8), Op.bytesLess a b = true → Op.bytesLess b a = false
  | [], [], h => by simp [Op.bytesLess] at h
  | [], _ :: _, _ => by simp [Op.bytesLess]
  | _ :: _, [], h => by simp [Op.bytesLess] at h
  | x :: a, y :: b, h => by
    simp only [Op.bytesLess] at h ⊢
    have ih := bytesLess_asymm a b
    rcases Nat.lt_trichotomy x.toNat y.toNat with h1 | h1 | h1
    · have : ¬ y < x := by simp only [UInt8.lt_iff_toNat_lt]; omega
      have : x < y := by simp only [UInt8.lt_iff_toNat_lt]; omega
      have : ¬ y = x := fun e => by subst e; omega
      simp_all
    · have : x = y := UInt8.toNat_inj.1 h1
      subst this
      simp_all
    · have h2 : ¬ x < y := by simp only [UInt8.lt_iff_toNat_lt]; omega
      have h3 : y < x := by simp only [UInt8.lt_iff_toNat_lt]; omega
      have : ¬ x = y := fun e => by subst e; omega
      simp_all
theorem bytesLess_total : ∀ (a b : List UInt8), Op.bytesLess a b = false → a ≠ b → Op.bytesLess b a = true
  | [], [], _, h => by simp at h
  | [], _ :: _, h, _ => by simp [Op.bytesLess] at h
  | _ :: _, [], _, _ => by simp [Op.bytesLess]
  | x :: a, y :: b, h, hne => by
    simp only [Op.bytesLess] at h ⊢
    have ih := bytesLess_total a b
    rcases Nat.lt_trichotomy x.toNat y.toNat with h1 | h1 | h1
    · have : x < y := by simp only [UInt8.lt_iff_toNat_lt]; omega
      simp_all
    · have : x = y := UInt8.toNat_inj.1 h1
      subst this
      simp_all
    · have h2 : ¬ x < y := by simp only [UInt8.lt_iff_toNat_lt]; omega
      have h3 : y < x := by simp only [UInt8.lt_iff_toNat_lt]; omega
      simp_all
theorem bytesLess_irrefl (a : List UInt8) : Op.bytesLess a a = false := by
  cases h : Op.bytesLess a a with
  | false => rfl
  | true => have := bytesLess_asymm a a h; rw [h] at this; cases this
variable [GLay]
theorem ba_toList_inj {a b : ByteArray} (h : a.toList = b.toList) : a = b := by
  have := ba_beq a b
  rw [h] at this; simpa using this
theorem blt_le {a b : ByteArray} (h : (blt a b || decide (a = b)) = true) : blt b a = false := by
  simp only [Bool.or_eq_true, decide_eq_true_eq] at h
  rcases h with h | h
  · exact bytesLess_asymm _ _ h
  · subst h; exact bytesLess_irrefl _
theorem blt_gt {a b : ByteArray} (h : (blt a b || decide (a = b)) = false) : blt b a = true := by
  simp only [Bool.or_eq_false_iff, decide_eq_false_iff_not] at h
  exact bytesLess_total _ _ h.1 fun e => h.2 (ba_toList_inj e)
end Lg
