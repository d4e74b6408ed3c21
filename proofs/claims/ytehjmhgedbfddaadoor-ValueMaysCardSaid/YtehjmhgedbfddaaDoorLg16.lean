import Derived.Test.YtehjmhgedbfddaaDoorLg15
set_option linter.unusedVariables false
set_option linter.unusedSimpArgs false
set_option linter.unusedSectionVars false
namespace Lg
open Go Go.RowKit
variable [GLay]

section sound
variable {P : Program} {N : Nat} {ops : Array Oper} {tb : Array Nat}

def dstOf (ops : Array Oper) (k : Nat) : Option Nat := (ops[k]?).bind (·.dst)
def lw (ops : Array Oper) (p : Nat → Bool) (t : Nat) : Nat → Option Nat
  | 0 => none
  | k + 1 => if p k = true ∧ dstOf ops k = some t then some k else lw ops p t k
theorem lw_congr {p q : Nat → Bool} {t : Nat} : ∀ {n : Nat}, (∀ j, j < n → dstOf ops j = some t → p j = q j) → lw ops p t n = lw ops q t n
  | 0, _ => rfl
  | n + 1, h => by
    simp only [lw]
    by_cases hd : dstOf ops n = some t
    · rw [h n (by omega) hd, lw_congr (fun j hj => h j (by omega))]
    · simp only [hd, and_false, if_false]; exact lw_congr (fun j hj => h j (by omega))
theorem lw_cut {p : Nat → Bool} {t i : Nat} : ∀ {n : Nat}, i ≤ n → (∀ j, i ≤ j → j < n → dstOf ops j = some t → p j = false) → lw ops p t n = lw ops p t i
  | 0, h, _ => by have : i = 0 := by omega
                  subst this; rfl
  | n + 1, h, hp => by
    by_cases e : i = n + 1
    · subst e; rfl
    · simp only [lw]
      rw [if_neg (fun ⟨h1, h2⟩ => by rw [hp n (by omega) (by omega) h2] at h1; cases h1)]
      exact lw_cut (by omega) (fun j h1 h2 => hp j h1 (by omega))
theorem lw_hit {p : Nat → Bool} {t i n : Nat} (hi : i < n) (hp : p i = true) (hd : dstOf ops i = some t) (h : ∀ j, i < j → j < n → dstOf ops j = some t → p j = false) : lw ops p t n = some i := by
  rw [lw_cut (i := i + 1) (by omega) (fun j h1 h2 => h j (by omega) h2)]
  simp [lw, hp, hd]

def preA (ops : Array Oper) (e0 : Env) (val : Nat → AV) (p : Nat → Bool) (n t : Nat) : AV :=
  match lw ops p t n with
  | some j => val j
  | none => e0.look t
theorem put_look (e : Env) (d : Option Nat) (v : AV) (t : Nat) : (e.put d v).look t = if d = some t then v else e.look t := by
  cases d with
  | none => simp [Env.put]
  | some d =>
    show lookL ((d, v) :: e.l) t = _
    simp only [lookL]
    by_cases h : d = t
    · subst h
      simp
    · have : Nat.beq d t = false := by
        cases hb : Nat.beq d t with
        | false => rfl
        | true => exact absurd (Nat.eq_of_beq_eq_true hb) h
      simp [this, h]
      rfl
theorem put_D (e : Env) (d : Option Nat) (v : AV) : (e.put d v).D = e.D := by cases d <;> rfl

theorem count_drop {p q : Nat → Bool} {i : Nat} : ∀ {l : List Nat}, l.Nodup → i ∈ l → p i = true → q i = false → (∀ j, j ≠ i → q j = p j) → l.countP q + 1 = l.countP p
  | [], _, h, _, _, _ => by simp at h
  | a :: r, hn, h, hp, hq, hj => by
    have hn' := List.nodup_cons.1 hn
    rw [List.countP_cons, List.countP_cons]
    by_cases e : a = i
    · subst e
      have : r.countP q = r.countP p := List.countP_congr (fun x hx => by rw [hj x (fun e => hn'.1 (e ▸ hx))])
      rw [this, hp, hq]; simp
    · have := count_drop hn'.2 ((List.mem_cons.1 h).resolve_left (fun e' => e e'.symm)) hp hq hj
      rw [hj a e]
      omega

variable {Q : Env → List AO → Prop} {X : AV → List AO → Prop}

theorem Tr.hconst {i0 m : Nat} {E : Nat → Env} {H : Nat → List AO} {val : Nat → AV} {kd : Nat → Kd} (ht : Tr P N ops tb Q X i0 m E H val kd) : ∀ (b a : Nat), i0 ≤ a → a ≤ b → b ≤ m → (∀ j, a ≤ j → j < b → kd j ≠ .eff) → H a = H b
  | 0, a, _, h, _, _ => by have : a = 0 := by omega
                           subst this; rfl
  | b + 1, a, h0, h, hb, hk => by
    by_cases e : a = b + 1
    · subst e; rfl
    · have ih := ht.hconst b a h0 (by omega) (by omega) (fun j h1 h2 => hk j h1 (by omega))
      obtain ⟨o, _, _, _, hp, hpu, hef, hsk⟩ := ht.step b (by omega) (by omega)
      have : H (b + 1) = H b := by
        cases hkb : kd b with
        | pure => exact (hpu hkb).2.2.1
        | eff => exact absurd hkb (hk b (by omega) (by omega))
        | skip => exact (hsk hkb).2.2
        | pan => exact absurd hkb hp
      rw [ih, this]

theorem exists_next (f : Nat → Bool) (m : Nat) : ∀ (d i : Nat), m - i = d → i ≤ m → ∃ q, i ≤ q ∧ q ≤ m ∧ (∀ j, i ≤ j → j < q → f j = false) ∧ (q < m → f q = true)
  | 0, i, hd, hi => ⟨i, Nat.le_refl _, hi, fun j h1 h2 => by omega, fun h => by omega⟩
  | d + 1, i, hd, hi => by
    cases hf : f i with
    | true => exact ⟨i, Nat.le_refl _, hi, fun j h1 h2 => by omega, fun _ => hf⟩
    | false =>
      obtain ⟨q, h1, h2, h3, h4⟩ := exists_next f m d (i + 1) (by omega) (by omega)
      refine ⟨q, by omega, h2, fun j h5 h6 => ?_, h4⟩
      by_cases e : j = i
      · subst e; exact hf
      · exact h3 j (by omega) h6
theorem exists_last (f : Nat → Bool) (i : Nat) : ∀ (q : Nat), i ≤ q → (∀ j, i ≤ j → j < q → f j = false) ∨ ∃ j, i ≤ j ∧ j < q ∧ f j = true ∧ ∀ k, j < k → k < q → f k = false
  | 0, h => .inl (fun j h1 h2 => by omega)
  | q + 1, h => by
    by_cases e : i = q + 1
    · subst e; exact .inl (fun j h1 h2 => by omega)
    · cases hf : f q with
      | true => exact .inr ⟨q, by omega, by omega, hf, fun k h1 h2 => by omega⟩
      | false =>
        rcases exists_last f i q (by omega) with h1 | ⟨j, h1, h2, h3, h4⟩
        · refine .inl fun j h2 h3 => ?_
          by_cases e' : j = q
          · subst e'; exact hf
          · exact h1 j h2 (by omega)
        · refine .inr ⟨j, h1, by omega, h3, fun k h5 h6 => ?_⟩
          by_cases e' : k = q
          · subst e'; exact hf
          · exact h4 k h5 (by omega)

/-- What the checks say. -/
structure Chk (ops : Array Oper) (tb : Array Nat) : Prop where
  edge : ∀ (i : Nat) (o : Oper), ops[i]? = some o → ∀ ed ∈ o.after.toList, Region.binds .any ed = true → ed.on < i ∧ befB tb ed.on i = true
  rd : ∀ (i j t : Nat) (o : Oper), ops[i]? = some o → dstOf ops j = some t → j ≠ i → t ∈ readsOf ops o → (j < i → befB tb j i = true) ∧ (i < j → befB tb i j = true)
  wr : ∀ (i j t : Nat) (o : Oper), ops[i]? = some o → dstOf ops j = some t → j ≠ i → o.dst = some t → (j < i → befB tb j i = true) ∧ (i < j → befB tb i j = true)
  way : ∀ (i j : Nat) (o : Oper), ops[j]? = some o → i < ops.size → befB tb i j = true → ∃ ed ∈ o.after.toList, Region.binds .any ed = true ∧ (ed.on = i ∨ befB tb i ed.on = true)

theorem Chk.of (h : rchk ops tb = true) (k : tbOK ops tb = true) : Chk ops tb := by
  have hlt : ∀ {i : Nat} {o : Oper}, ops[i]? = some o → i < ops.size := fun h => (Array.getElem?_eq_some_iff.1 h).1
  have key : ∀ (i j t : Nat) (o : Oper), ops[i]? = some o → dstOf ops j = some t → j ≠ i →
      (t ∈ readsOf ops o → (bif Nat.blt j i then befB tb j i else befB tb i j) = true) ∧ (o.dst = some t → (bif Nat.blt j i then befB tb j i else befB tb i j) = true) := fun i j t o ho hd hne => by
    have h1 := List.all_eq_true.1 h i (List.mem_range.2 (hlt ho))
    rw [ho] at h1
    simp only [Bool.and_eq_true] at h1
    have hj : ∃ p, ops[j]? = some p ∧ p.dst = some t := by
      unfold dstOf at hd
      cases hp : ops[j]? with
      | none => rw [hp] at hd; cases hd
      | some p => rw [hp] at hd; exact ⟨p, rfl, hd⟩
    obtain ⟨p, hp, hpd⟩ := hj
    have h2 := List.all_eq_true.1 h1.2 j (List.mem_range.2 (hlt hp))
    rw [hp] at h2
    simp only [hpd] at h2
    have hb : Nat.beq i j = false := by
      cases hb : Nat.beq i j with
      | false => rfl
      | true => exact absurd (Nat.eq_of_beq_eq_true hb).symm hne
    rw [hb] at h2
    simp only [Bool.false_or, Bool.and_eq_true, Bool.or_eq_true, Bool.not_eq_true'] at h2
    refine ⟨fun hm => h2.1.resolve_left (fun hc => ?_), fun hm => h2.2.resolve_left (fun hc => ?_)⟩
    · rw [List.contains_eq_mem] at hc
      simp [hm] at hc
    · rw [hm] at hc; simp at hc
  have fin : ∀ {i j : Nat}, (bif Nat.blt j i then befB tb j i else befB tb i j) = true → (j < i → befB tb j i = true) ∧ (i < j → befB tb i j = true) := fun {i j} hb => by
    constructor
    · intro hji
      have : Nat.blt j i = true := by rw [Nat.blt_eq]; exact hji
      rw [this] at hb; exact hb
    · intro hij
      have : Nat.blt j i = false := by
        cases hbl : Nat.blt j i with
        | false => rfl
        | true => rw [Nat.blt_eq] at hbl; omega
      rw [this] at hb; exact hb
  refine ⟨fun i o ho ed hed hbd => ?_, fun i j t o ho hd hne hm => fin ((key i j t o ho hd hne).1 hm), fun i j t o ho hd hne hm => fin ((key i j t o ho hd hne).2 hm), fun i j o ho hi hb => ?_⟩
  · have h1 := List.all_eq_true.1 h i (List.mem_range.2 (hlt ho))
    rw [ho] at h1
    simp only [Bool.and_eq_true] at h1
    have h2 := List.all_eq_true.1 h1.1 ed hed
    simp only [hbd, Bool.not_true, Bool.false_or, Bool.and_eq_true, Nat.blt_eq] at h2
    exact h2
  · have h1 := List.all_eq_true.1 k j (List.mem_range.2 (hlt ho))
    rw [ho] at h1
    have h2 := List.all_eq_true.1 h1 i (List.mem_range.2 hi)
    simp only [hb, Bool.not_true, Bool.false_or] at h2
    obtain ⟨ed, hed, h3⟩ := List.any_eq_true.1 h2
    simp only [Bool.and_eq_true, Bool.or_eq_true] at h3
    exact ⟨ed, hed, h3.1, h3.2.imp Nat.eq_of_beq_eq_true id⟩
end sound
end Lg
